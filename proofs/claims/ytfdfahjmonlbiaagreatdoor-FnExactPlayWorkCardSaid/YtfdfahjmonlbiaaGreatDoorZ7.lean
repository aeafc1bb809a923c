/- Parts of a proof, joined: DA, DB, MA, MB, OB, OG, QA, QO, MC, MD, QT, TF, HB, SP, HL, IA, IC, IB, RI. -/
import Derived.Test.YtfdfahjmonlbiaaGreatDoorZ6
import Derived.Test.YtfdfahjmonlbiaaGreatDoorProg
import Derived.Test.YtfdfahjmonlbiaaGreatDoorChecked
import Derived.Shelf.Strings.Builder1
import Derived.Shelf.Strings.Builder2
import Derived.Shelf.Strings.OnBuilder
import Derived.Shelf.Small.Strs
import Derived.Shelf.Small.Wraps
import Derived.Shelf.Strings.BuilderF
import Derived.Shelf.Strings.BuilderK
import Derived.Shelf.Utf8.RuneCount
import Derived.Shelf.Strings.Builder2Cap
import Derived.Shelf.Strconv.Atoi
import Derived.Shelf.Strconv.Itoa0
import Derived.Shelf.Strconv.Itoa1
import Derived.Shelf.LaysM
import Derived.Shelf.Strconv.Itoa2
import Derived.Shelf.Strconv.Itoa3
import Derived.Shelf.Strconv.AtoiErrFast
import Derived.Shelf.Strconv.ParseIntEmpty
import Derived.Shelf.Strconv.AtoiFail
import Derived.Shelf.Strconv.Clone
import Derived.Shelf.Strconv.SyntaxError
import Derived.Shelf.LaysC
import Derived.Shelf.Strconv.ToError
import Derived.Shelf.Strconv.Lower
import Derived.Shelf.Strconv.ParseUint10
import Derived.Shelf.Strconv.ParseUint10Empty
import Derived.Shelf.Strconv.ParseUint10Any
import Derived.Shelf.Strconv.ParseInt10
import Derived.Shelf.Strconv.AtoiLong
import Derived.Shelf.Strconv.AtoiInnerAll
import Derived.Shelf.Strconv.RangeError
import Derived.Shelf.Strconv.ToErrorRange
import Derived.Shelf.Strconv.AtoiAll
import Derived.Shelf.Strconv.ErrVarAll
import Derived.Shelf.Strings.Search1
import Derived.Shelf.Strings.Search2
import Derived.Shelf.Strings.Search3
import Derived.Shelf.Strings.Cut
import Derived.Shelf.Strings.Count
import Derived.Shelf.Strings.Shaped
import Derived.Shelf.Strings.Prefix
import Derived.Shelf.Strings.Split
import Derived.Shelf.Strings.SplitShaped
import Derived.Shelf.Unicode.Decode
import Derived.Shelf.Strings.RuneCount
import Derived.Shelf.Strings.Explode
import Derived.Shelf.Unicode.DecodeSlow
import Derived.Shelf.Unicode.DecodeAny
import Derived.Shelf.Strings.BuilderCap
import Derived.Ground.Names2Prog
import Derived.Shelf.Slices.Clone
import Derived.Ground.SlgnProg
import Derived.Shelf.SlicesE.Clone
import Derived.Laws.CopyRow
import Derived.Lib.AppendZerosOnto
import Derived.Lib.Overlaps
import Derived.Deep.RegionLaw
import Derived.StillTailTactics
import Derived.Deep.QuietTactic
import Derived.Sort.Grow
set_option linter.unusedVariables false
set_option linter.unusedSimpArgs false
section
namespace Go.Proofs.YtfdfahjmonlbiaaGreatDoor
open Go.RowKit
noncomputable def s7 (t:TypeId):List Bool:=(A6 Tryz.prog t).map fun u=>match CI Tryz.prog u with|some e=>Ca Tryz.prog e|none=>false
noncomputable def zH (u:TypeId):List Bool:=s7 u
noncomputable def zKd (fn:Func):HC:={cr:=fn.params.toList.map fun t=>match Kr Tryz.prog t with|some u=> .bx (zH u) (zH u)|none=> .ro,res:=fn.resultTypes.toList.flatMap s7}
noncomputable def zI5 (f:Nat):Option HC:=
 match f with
 |3=>some {cr:= [],res:= [false],dp:=true}
 |6=>some {cr:= [.ro, .ro],res:= []}
 |7=>some {cr:= [],res:= [false,true,true,true,false,false,false,false],dp:=true}
 |8=>some {cr:= [],res:= [true],dp:=true}
 |9=>some {cr:= [.ro, .ro],res:= [false,true,true,true,false,false,false,false,true,false],dp:=true}
 |13=>some {cr:= [.mu [false,true,true,true,false,false,false,false], .ro],res:= [],dp:=true}
 |14=>some {cr:= [.mu [true], .ro],res:= [],dp:=true}
 |15=>some {cr:= [.mu [true], .ro],res:= []}
 |24=>some {cr:= [.ro, .ro],res:= []}
 |25=>some {cr:= [],res:= [false,true,true,true],dp:=true}
 |29=>some {cr:= [.ro],res:= [false,true,true,true,false,false,false,false],dp:=true}
 |31=>some {cr:= [.ro, .ro],res:= [false,true,true,true,false,false,false,false,false],dp:=true}
 |35=>some {cr:= [.mu [false,true,true,true], .ro],res:= [],dp:=true}
 |36=>some {cr:= [.mu [true], .ro],res:= []}
 |44=>some {cr:= [.ro],res:= [false,true,true,true],dp:=true}
 |49=>some {cr:= [.ro, .ro],res:= []}
 |52=>some {cr:= [],res:= [true],dp:=true}
 |58=>some {cr:= [.ro],res:= [false,true,true,true],dp:=true}
 |62=>some {cr:= [.ro, .ro],res:= [false,true,true,true,false,false,false,false,false],dp:=true}
 |71=>some {cr:= [.mu [true], .ro],res:= [],dp:=true}
 |72=>some {cr:= [.mu [true], .ro],res:= []}
 |73=>some {cr:= [.mu [true], .ro],res:= []}
 |91=>some {cr:= [.ro, .ro],res:= [false,true,true,true,false],dp:=true}
 |93=>some {cr:= [.ro, .ro],res:= [true],dp:=true}
 |117=>some {cr:= [.ro, .ro],res:= []}
 |120=>some {cr:= [.ro, .ro],res:= [false,true,true,true,false],dp:=true}
 |122=>some {cr:= [.va [true], .ro],res:= [true],wn:=true,lo:= [false,true]}
 |123=>some {cr:= [.ro],res:= [true]}
 |133=>some {cr:= [.mu [true], .ro],res:= []}
 |175=>some {cr:= [.ro, .ro],res:= [false],lo:= [false,true]}
 |220=>some {cr:= [.ro, .ro, .bx [true] [true]],res:= [],ft:= [1000000149]}
 |224=>some {cr:= [.va [true], .ro],res:= [true]}
 |225=>some {cr:= [.va [true], .ro],res:= [true],wn:=true}
 |228=>some {cr:= [.ro, .ro],res:= []}
 |257=>some {cr:= [.va [true], .ro, .va [true]],res:= [true]}
 |259=>some {cr:= [.ro, .ro, .ro, .ro],res:= []}
 |289=>some {cr:= [.va [true], .ro],res:= [true],wn:=true}
 |305=>some {cr:= [.mu [true], .ro],res:= []}
 |307=>some {cr:= [.mu [true]],res:= []}
 |_=>none
noncomputable def zKI (f:Nat):Option HC:=match Tryz.prog.funcs[f]? with
 |some fn=>some ((zI5 f).getD (zKd fn))
 |none=>none
noncomputable def Cj:BT:={f:=zKI}
theorem zJW:Tryz.prog.follows .mixedOrders=true:=by kernel_rfl
theorem zKY:Tryz.prog.funcs.size<1000000:=by
 have:(decide (Tryz.prog.funcs.size<1000000))=true:=by kernel_rfl
 exact of_decide_eq_true this
theorem SG (f:Nat) (s:HC) (h:Cj f=some s):f<1000000:=by
 simp only [Cj]at h;unfold zKI at h;split at h
 ·rename_i fn hf;have:=(Array.getElem?_eq_some_iff.1 hf).1;exact Nat.lt_trans this zKY
 ·cases h
def XZ (P:Program) (sg:BT) (f:Nat) (xs:List AV) (r:AV):Bool:=
 match P.funcs[f]?,sg f with
 |some fn,some s=> !(fn.name== "runtime.NumGoroutine")&&Nw P fn s r&&xs.length==fn.params.size+fn.nfree
 |_,_=>false
abbrev Den (t:Tr) (r:AV) (xs:List AV):Prop:=t.den (Ck Tryz.prog Cj) (fun r'=>r'=r) (fun _ _ _ _=>False) [] xs
theorem FQ {f:Nat} {t:Tr} {xs:List AV} {r:AV} (hc:Uq Tryz.prog Cj f=some t) (hk:XZ Tryz.prog Cj f xs r=true) (hd:Den t r xs):Ck Tryz.prog Cj f xs r:=by
 unfold XZ at hk;split at hk
 ·rename_i fn s hf hs;simp only [Ae,Bool.not_eq_true',beq_iff_eq]at hk;unfold Ck;rw [if_pos (SG f s hs)];exact⟨s,hs,zFI zJW SG hf hs hk.1.1 hc hk.1.2 hk.2 hd⟩
 ·cases hk
section
variable {Rt:Nat→List AV→AV→Prop} {R:AV→Prop} {L:LK} {js:List JK} {ρ:List AV}
theorem rG {i:EL} {b k:Tr} (hL:Kf L) (I:Nat→List AV→Prop) {m:Nat} (h0:I m (i.den ρ)) (DA: ∀m vs,I m vs→b.den Rt R L ((fun us=> ∃m',m'<m∧I m' us)::(fun us=>k.den Rt R L js (ρ++us))::js) (ρ++vs)):(Tr.loop i b k).den Rt R L js ρ:=by
 have hb: ∀W W':JK,(∀vs,W vs→W' vs)→ ∀vs,b.den Rt R L (W::(fun us=>k.den Rt R L js (ρ++us))::js) (ρ++vs)→b.den Rt R L (W'::(fun us=>k.den Rt R L js (ρ++us))::js) (ρ++vs):=
  fun W W' hW vs hv=>b.gr hL hv (.cons hW (D7.refl _))
 have mono: ∀n vs,Jc (fun W vs=>b.den Rt R L (W::(fun us=>k.den Rt R L js (ρ++us))::js) (ρ++vs)) n vs→ ∀n',n≤n'→Jc (fun W vs=>b.den Rt R L (W::(fun us=>k.den Rt R L js (ρ++us))::js) (ρ++vs)) n' vs:=by
  intro n
  induction n with
  |zero=>intro vs h;exact h.elim
  |succ n ih=>
   intro vs h n' hn;cases n' with
   |zero=>omega
   |succ n'=>exact hb _ _ (fun us hu=>ih us hu n' (by omega)) vs h
 have key: ∀m vs,I m vs→Jc (fun W vs=>b.den Rt R L (W::(fun us=>k.den Rt R L js (ρ++us))::js) (ρ++vs)) (m+1) vs:=by
  intro m
  induction m using Nat.strongRecOn with
  |_ m ih=>intro vs hI;exact hb _ _ (fun us ⟨m',hm,hu⟩=>mono _ _ (ih m' hm us hu) m (by omega)) vs (DA m vs hI)
 exact⟨m+1,key m _ h0⟩
theorem aO:Kf (fun _ _ _ _=>False):=fun _ _ _ _ _ _ h=>h
end
@[simp] theorem zKB (ρ:List AV):Bg ρ []↔True:=⟨fun _=>trivial,fun _=>E0 ρ⟩
@[simp] theorem zKi (ρ:List AV) (x:E) (b:Bool) (gs:Gd):Bg ρ ((x,b)::gs)↔x.den ρ= .bool b∧Bg ρ gs:=
 ⟨fun h=>⟨h (x,b) (by simp),fun g hg=>h g (by simp [hg])⟩,fun h g hg=>by rcases Ag.1 hg with rfl|hg;exact h.1;exact h.2 g hg⟩
attribute [simp] E.den EL.den Cn.den AV.fld AV.proj AV.deref AV.len AV.slen AV.idx AV.nth AV.fm AV.jt AV.conv AV.bin AV.bbin AV.sbin AV.app AV.cz AV.rep
@[simp] theorem zJp (cs:List AV):(AV.agg cs).cells=cs:=rfl
@[simp] theorem zJO (k:IntKind) (n:Int):(AV.int k n).cells= [.int k n]:=rfl
@[simp] theorem zIL (b:Bool):(AV.bool b).cells= [.bool b]:=rfl
@[simp] theorem zJr (s:List UInt8):(AV.str s).cells= [.str s]:=rfl
@[simp] theorem zJ1 (xs:List AV):(AV.sl xs).cells= [.sl xs]:=rfl
@[simp] theorem zIN (k:IntKind) (n:Int):(AV.int k n).scalar=true:=rfl
@[simp] theorem zID (b:Bool):(AV.bool b).scalar=true:=rfl
@[simp] theorem zIK (s:List UInt8):(AV.str s).scalar=true:=rfl
@[simp] theorem zKp (b c d:Bool):AV.cond (.bool b) (.bool c) (.bool d)= .bool (bif b then c else d):=by cases b<;>rfl
theorem zzf {y:AV} (h:y.scalar=true):y.cells= [y]:=by cases y<;>first|rfl|simp [AV.scalar]at h
theorem A9 {n:Int} (h1: -9223372036854775808≤n) (h2:n≤9223372036854775807):IntKind.i64.wrap n=n:=by rw [IntKind.wrap_i64];omega
end Go.Proofs.YtfdfahjmonlbiaaGreatDoor
end
section
namespace Go.Proofs.YtfdfahjmonlbiaaGreatDoor
open Go.RowKit
section
variable {Rt:Nat→List AV→AV→Prop} {R:AV→Prop} {L:LK} {js:List JK} {ρ:List AV}
theorem B3 {gs:Gd} {c:Cn} {k:Tr} (h:Bg ρ gs→c.den ρ) (hk:k.den Rt R L js ρ):(Tr.bt gs c k).den Rt R L js ρ:=⟨h,hk⟩
theorem V7 {gs:Gd} {f:Nat} {args:EL} {k:Tr} {r:AV} (h:Bg ρ gs→Rt f (args.den ρ) r) (hk:k.den Rt R L js (ρ++ [r])):(Tr.call gs (.inl f) args k).den Rt R L js ρ:=⟨r,h,hk⟩
theorem bZ {gs:Gd} {x:E} {args:EL} {k:Tr} {r:AV} (h:Bg ρ gs→ ∃g caps,x.den ρ= .fn g caps∧Rt (1000000+g) (args.den ρ++caps) r∧ ∀y∈r.cells,y.scalar=true) (hk:k.den Rt R L js (ρ++ [r])):(Tr.call gs (.inr x) args k).den Rt R L js ρ:=⟨r,h,hk⟩
theorem Er {c:E} {a b:Tr} {t:Bool} (h:c.den ρ= .bool t) (ha:t=true→a.den Rt R L js ρ) (hb:t=false→b.den Rt R L js ρ):(Tr.ite c a b).den Rt R L js ρ:=⟨t,h,ha,hb⟩
theorem Iz {r:E} (h:R (r.den ρ)):(Tr.ret r).den Rt R L js ρ:=h
theorem Ns {es:EL} {j:JK} (h:j (es.den ρ)):(Tr.jmp 0 es).den Rt R L (j::js) ρ:=h
theorem cR {es:EL} {i j:JK} (h:j (es.den ρ)):(Tr.jmp 1 es).den Rt R L (i::j::js) ρ:=h
end
def w5 (cn:Nat) (xs:List AV):Prop:= ∀x∈xs,∃cs,x= .agg cs∧cs.length=cn
theorem w5.at {cn:Nat} {xs:List AV} (h:w5 cn xs) {q:Nat} (hq:q<xs.length): ∃cs,xs[q]= .agg cs∧cs.length=cn:=h _ (List.getElem_mem hq)
section
variable {Rt:Nat→List AV→AV→Prop} {R:AV→Prop} {L:LK} {js:List JK} {ρ:List AV} {α β σ τ:Type}
theorem zI2 {x:E} {sz:Nat} {xs:List α} (f:α→AV) (hx:x.den ρ= .sl (xs.map f)) (hf: ∀y,(f y).cells.length=sz):Cn.den ρ (.issl x sz):=⟨_,hx,by simp [hf]⟩
theorem zIw {x:E} {sz:Nat} {xs:List α} (f:α→AV) (hx:x.den ρ= .sl (xs.map f)) (hf: ∀y,(f y).cells.length=sz∧ ∀z∈(f y).cells,z.scalar=true):Cn.den ρ (.flatS x sz):=⟨_,hx,by simp only [List.mem_map];rintro _ ⟨y,_,rfl⟩;exact hf y⟩
end
@[simp] def Ug (n:Int):AV:= .int .i64 n
@[simp] def s6 (b:Bool):AV:= .bool b
@[simp] def GX (x:List UInt8):AV:= .str x
attribute [simp] BL SI AV.sidx AV.aeq AV.leq AV.seq AV.sk AV.dd AV.bytes AV.text
end Go.Proofs.YtfdfahjmonlbiaaGreatDoor
end
section
namespace Go.Proofs.YtfdfahjmonlbiaaGreatDoor
open Go.RowKit
section
variable {P:Program} {w:World}
theorem DE.jn {ts:List TypeId} {vs:List Value} {xs:List AV} {rf lf hs:List Nat} (h:DE P w ts [] [] vs xs rf lf hs): ∀(ms:List PM) (lo:List Bool),(∀m∈ms,m= .ro)→DE P w ts ms lo vs xs rf lf hs:=by
 generalize hm:([]:List PM)=m0 at h;generalize hn:([]:List Bool)=n0 at h
 induction h with
 |nil=>intro ms lo _;exact .nil
 |lent h1 _ _ _ _=>subst hn;cases h1
 | @cons t ts ms' lo' v vs x xs f h rf lf hs A7 _ ih=>
  subst hm;subst hn;intro ms lo EF;refine .cons ?_ (ih rfl rfl ms.tail lo.tail fun m hm=>EF m (List.mem_of_mem_tail hm));have:ms.headD .ro= .ro:=by cases ms with|nil=>rfl|cons m ms=>exact EF m (by simp)
  rw [this];exact A7
 |free h1 _ ih=>subst hm;subst hn;intro ms lo EF;exact .free h1 (ih rfl rfl ms.tail lo.tail fun m hm=>EF m (List.mem_of_mem_tail hm))
theorem DU.jn {ts:List TypeId} {ms:List PM} {vs:List Value} {Bs:List AV} {f o:List Nat} (h:DU P w ts ms vs Bs f o) (EF: ∀m∈ms,m= .ro):DU P w ts [] vs Bs f o:=by
 have hd: ∀{ms:List PM},(∀m∈ms,m= .ro)→ms.headD .ro= .ro:=by intro ms h;cases ms with|nil=>rfl|cons m ms=>exact h m (by simp)
 induction h with
 |nil=>exact .nil
 |ro _ _ ih=>exact .ro rfl (ih fun m hm=>EF m (List.mem_of_mem_tail hm))
 |va h9 _ _=>rw [hd EF]at h9;cases h9
 |mu h9 _ _ _ _=>rw [hd EF]at h9;cases h9
 |bx h9 _ _ _ _ _ _ _ _=>rw [hd EF]at h9;cases h9
end
noncomputable def jI (f:Nat) (r:AV):Bool:=
 match Tryz.prog.funcs[f]?,Cj f with
 |some fn,some s=>s.cr.all (fun m=>match m with| .ro=>true|_=>false)&&s.ft.isEmpty&&(match fn.resultTypes.toList with| [t]=> !GV Tryz.prog t s.res|_=>false)&&Nw Tryz.prog fn {cr:= [],res:= []} r
 |_,_=>false
theorem zCL {f:Nat} {xs:List AV} {r:AV} (h:Ck Tryz.prog Cj f xs r) (hp:jI f r=true):Ck Tryz.prog Cj (1000000+f) xs r:=by
 unfold jI at hp;split at hp
 ·rename_i fn s hf hs;simp only [Ae,AR]at hp;obtain⟨⟨⟨h1,Ek⟩,h2⟩,h3⟩:=hp;have Ek:s.ft= []:=by simpa using Ek
  have Hi: ∀m∈s.cr,m= .ro:=fun m hm=>by
   have:=h1 m hm;split at this
   ·rfl
   ·cases this
  unfold Ck at h ⊢;rw [if_pos (SG f s hs)]at h;rw [if_neg (by omega),Nat.add_sub_cancel_left];obtain⟨s',Bb,fn',Ts,hb,hn,_,hl,_,hc⟩:=h;rw [hs]at Bb;cases Bb;rw [hf]at Ts;cases Ts;rw [Ek]at hc;refine⟨fn,hf,hb,hn,h3,hl,by simp,fun w vs rf lf Bb Ay hd hd2 Ce Ed=>(hc w vs rf lf Bb (Ay.jn _ _ Hi) hd hd2 Ce Ed).mono ?_⟩;rintro e w' ⟨v,rfl,⟨R,Bs,f1,o1,f2,o2,e1,e2,e3,e4,e5,e6⟩,hm⟩;rw [Ek]at e3;refine⟨v,rfl,⟨R,Bs,f1,o1,f2,o2,e1, ?_,e3.jn Hi,e4,e5,e6⟩,hm⟩;unfold Ks at e2 ⊢;split at h2
  ·rename_i t ht;rw [ht]at e2 ⊢;simp only at e2 ⊢;unfold ES at e2 ⊢;have h2:GV Tryz.prog t s.res=false:=by simpa using h2
   rw [if_neg (by rw [h2];simp)]at e2;rw [if_neg (by simp [GV])];exact e2
  ·cases h2
 ·cases hp
section
variable {Rt:Nat→List AV→AV→Prop} {R:AV→Prop} {L:LK} {js:List JK} {ρ:List AV}
theorem u9 {i:EL} {b k:Tr} (hL:Kf L) (n:Nat) (st:Nat→List AV) (J:Nat→Prop) (hJ:J 0) (h0:i.den ρ=st 0) (hb: ∀q,q≤n→J q→ ∀W:JK,(q<n→J (q+1)→W (st (q+1)))→b.den Rt R L (W::(fun us=>k.den Rt R L js (ρ++us))::js) (ρ++st q)):(Tr.loop i b k).den Rt R L js ρ:=by refine rG hL (fun m vs=> ∃q,q+m=n∧vs=st q∧J q) (m:=n) ⟨0,by omega,h0,hJ⟩ ?_;rintro m vs ⟨q,hq,rfl,hj⟩;exact hb q (by omega) hj _ fun An P1=>⟨m-1,by omega,q+1,by omega,rfl,P1⟩
end
def Qi (cn:Nat):Tr:=
 .bt [] (.dfd (.len (.var 0)))<|
 .loop (.cons (.int .i64 (0)) .nil) (
  .bt [] (.dfd (.bin .lss (.var 2) (.len (.var 0))))<|
  .ite (.bin .lss (.var 2) (.len (.var 0))) (
  .bt [] (.inb (.var 2) (.var 0) cn)<|
  .call [] (.inr (.var 1)) (.cons (.fld (.idx (.var 0) (.var 2)) 0 cn true) .nil)<|
  .ite (.var 3) (
   .ret (.var 2)) (
   .bt [] (.dfd (.bin .add (.var 2) (.int .i64 (1))))<|
   .jmp 0 (.cons (.bin .add (.var 2) (.int .i64 (1))) .nil))) (
  .jmp 1 .nil)) (
  .ret (.int .i64 (-1)))
def XC:Tr:=
 .bt [] (.dfd (.len (.var 0)))<|
 .loop (.cons (.int .i64 (0)) .nil) (
  .bt [] (.dfd (.bin .lss (.var 2) (.len (.var 0))))<|
  .ite (.bin .lss (.var 2) (.len (.var 0))) (
  .bt [] (.inb (.var 2) (.var 0) 1)<|
  .call [] (.inr (.var 1)) (.cons (.fld (.idx (.var 0) (.var 2)) 0 1 false) .nil)<|
  .ite (.var 3) (
   .ret (.var 2)) (
   .bt [] (.dfd (.bin .add (.var 2) (.int .i64 (1))))<|
   .jmp 0 (.cons (.bin .add (.var 2) (.int .i64 (1))) .nil))) (
  .jmp 1 .nil)) (
  .ret (.int .i64 (-1)))
def D6 {α:Type} (p:α→Option Bool):List α→Int→Option Int
 | [],_=>some (-1)
 |x::xs,i=>(p x).bind fun b=>if b=true then some i else D6 p xs (i+1)
noncomputable def Ff {α:Type} (xs:List α) (p:α→Option Bool):Option Int:=AD (xs.length≤9223372036854775806) (D6 p xs 0)
noncomputable def Hq {α:Type} (xs:List α) (p:α→Option Bool):Option Bool:=(Ff xs p).bind fun i=>some (decide (i≥0))
noncomputable def Nv {α:Type} (bytes:Nat) (xs:List α):Option (List α):=AD ((xs.length:Int)*bytes≤140737488355328∧(xs.length:Int)≤140737488355328) (some xs)
theorem zx3 {α:Type} {p:α→Option Bool} {l:List α} {r:Int} {q:Nat} (hq:q<l.length) (h:D6 p (l.drop q) q=some r): ∃b,p l[q]=some b∧(b=true→r=q)∧(b=false→D6 p (l.drop (q+1)) ((q+1:Nat):Int)=some r):=by
 rw [List.drop_eq_getElem_cons hq]at h;obtain⟨b,hb,h⟩:=Ji h;refine⟨b,hb, ?_, ?_⟩
 ·rintro rfl;simpa using h.symm
 ·rintro rfl;simpa using h
theorem dD {α:Type} {av:α→AV} {l:List α} {p:α→Option Bool} {cn g:Nat} {caps:List AV} {r:Int} (hs: ∀x,∃cs,av x= .agg cs∧cs.length=cn) (h:Ff l p=some r) (hf: ∀x b,p x=some b→Ck Tryz.prog Cj (1000000+g) (av x::caps) (.bool b)):Den (Qi cn) (.int .i64 r) [.sl (l.map av), .fn g caps]:=by
 obtain⟨hn,h⟩:=Gw h;unfold Den Qi;refine B3 (by simp) ?_;refine u9 aO l.length (fun q=> [.int .i64 q]) (fun q=>D6 p (l.drop q) q=some r) (by simpa using h) (by simp) fun q hq hJ W hW=> ?_;by_cases An:q<l.length
 ·obtain⟨cs,hc,hl⟩:=hs l[q];obtain⟨b,hb,Ew,G7⟩:=zx3 An hJ;refine B3 (by simp [BL]) (Er (t:=true) (by simp [BL,An]) (fun _=> ?_) (by simp));refine B3 (fun _=>⟨.i64,q,l.length,by simp,by omega,by simp,by omega,by simp [An,hc,hl]⟩) (bZ (r:= .bool b) (fun _=>⟨g,caps,by simp, ?_,by simp⟩) ?_)
  ·have:=hf l[q] b hb;rw [hc]at this;simpa [An,hc,←hl]using this
  ·cases b with
   |true=>exact Er (t:=true) (by simp) (fun _=>Iz (by simp [Ew rfl])) (by simp)
   |false=>refine Er (t:=false) (by simp) (by simp) fun _=>B3 (by simp [BL]) (Ns ?_);have:=hW An (G7 rfl);simpa [BL,A9 (n:=(q:Int)+1) (by omega) (by omega)]using this
 ·have IT:q=l.length:=by omega
  subst IT;have hr:r= -1:=by simpa [D6]using hJ.symm
  refine B3 (by simp [BL]) (Er (t:=false) (by simp [BL]) (by simp) fun _=>cR ?_);exact Iz (by simp [hr])
theorem uV {α:Type} {av:α→AV} {l:List α} {p:α→Option Bool} {g:Nat} {caps:List AV} {r:Int} (hs: ∀x,(av x).cells= [av x]) (h:Ff l p=some r) (hf: ∀x b,p x=some b→Ck Tryz.prog Cj (1000000+g) (av x::caps) (.bool b)):Den XC (.int .i64 r) [.sl (l.map av), .fn g caps]:=by
 obtain⟨hn,h⟩:=Gw h;unfold Den XC;refine B3 (by simp) ?_;refine u9 aO l.length (fun q=> [.int .i64 q]) (fun q=>D6 p (l.drop q) q=some r) (by simpa using h) (by simp) fun q hq hJ W hW=> ?_;by_cases An:q<l.length
 ·obtain⟨b,hb,Ew,G7⟩:=zx3 An hJ;refine B3 (by simp [BL]) (Er (t:=true) (by simp [BL,An]) (fun _=> ?_) (by simp));refine B3 (fun _=>⟨.i64,q,l.length,by simp,by omega,by simp,by omega,by simp [An,hs]⟩) (bZ (r:= .bool b) (fun _=>⟨g,caps,by simp, ?_,by simp⟩) ?_)
  ·have:=hf l[q] b hb;simpa [An,hs]using this
  ·cases b with
   |true=>exact Er (t:=true) (by simp) (fun _=>Iz (by simp [Ew rfl])) (by simp)
   |false=>refine Er (t:=false) (by simp) (by simp) fun _=>B3 (by simp [BL]) (Ns ?_);have:=hW An (G7 rfl);simpa [BL,A9 (n:=(q:Int)+1) (by omega) (by omega)]using this
 ·have IT:q=l.length:=by omega
  subst IT;have hr:r= -1:=by simpa [D6]using hJ.symm
  refine B3 (by simp [BL]) (Er (t:=false) (by simp [BL]) (by simp) fun _=>cR ?_);exact Iz (by simp [hr])
def Qh (f:Nat):Tr:=
 .call [] (.inl f) (.cons (.var 0) (.cons (.var 1) .nil))<|
 .bt [] (.dfd (.bin .geq (.var 2) (.int .i64 (0))))<|
 .ret (.bin .geq (.var 2) (.int .i64 (0)))
theorem cY {α:Type} {l:List α} {p:α→Option Bool} {f:Nat} {x y:AV} {r:Bool} (h:Hq l p=some r) (hf: ∀i,Ff l p=some i→Ck Tryz.prog Cj f [x,y] (.int .i64 i)):Den (Qh f) (.bool r) [x,y]:=by obtain⟨i,hi,h⟩:=Ji h;unfold Den Qh;refine V7 (fun _=>by simpa using hf i hi) (B3 (by simp [BL]) (Iz ?_));simp only [Ah]at h;simp [BL,←h]
def SQ (bytes sz:Nat):Tr:=
 .bt [] (.dfd (.len (.var 0)))<|
 .cd [] (.var 0)<|
 .ite (.var 1) (
  .ret (.lst .nil)) (
  .bt [] (.room (.lst .nil) (.var 0) bytes)<|
  .bt [] (.flatS (.var 0) sz)<|
  .ret (.app (.lst .nil) (.var 0)))
def sW (bytes sz:Nat):Tr:=
 .bt [] (.dfd (.len (.var 0)))<|
 .cd [] (.var 0)<|
 .ite (.var 1) (
  .ret (.lst .nil)) (
  .bt [] (.room (.lst .nil) (.var 0) bytes)<|
  .bt [] (.issl (.var 0) sz)<|
  .ret (.app (.lst .nil) (.var 0)))
theorem bM {α:Type} {av:α→AV} {xs r:List α} {bytes sz:Nat} (hs: ∀x,(av x).cells.length=sz∧ ∀z∈(av x).cells,z.scalar=true) (h:Nv bytes xs=some r):Den (SQ bytes sz) (.sl (r.map av)) [.sl (xs.map av)]:=by
 obtain⟨hq,h⟩:=Gw h;cases h;unfold Den SQ;refine B3 (by simp) fun b hb=> ?_;cases b with
 |true=>have:=hb (by simp) rfl;exact Er (t:=true) (by simp) (fun _=>Iz (by simpa using this.symm)) (by simp)
 |false=>exact Er (t:=false) (by simp) (by simp) fun _=>B3 (fun _=>⟨0,xs.length,by simp,by simp,by simpa using hq.1,by simpa using hq.2⟩) (B3 (fun _=>zIw (xs:=xs) av (by simp) hs) (Iz (by simp)))
theorem zCe {α:Type} {av:α→AV} {xs r:List α} {bytes sz:Nat} (hs: ∀x,(av x).cells.length=sz) (h:Nv bytes xs=some r):Den (sW bytes sz) (.sl (r.map av)) [.sl (xs.map av)]:=by
 obtain⟨hq,h⟩:=Gw h;cases h;unfold Den sW;refine B3 (by simp) fun b hb=> ?_;cases b with
 |true=>have:=hb (by simp) rfl;exact Er (t:=true) (by simp) (fun _=>Iz (by simpa using this.symm)) (by simp)
 |false=>exact Er (t:=false) (by simp) (by simp) fun _=>B3 (fun _=>⟨0,xs.length,by simp,by simp,by simpa using hq.1,by simpa using hq.2⟩) (B3 (fun _=>zI2 (xs:=xs) av (by simp) hs) (Iz (by simp)))
end Go.Proofs.YtfdfahjmonlbiaaGreatDoor
end
section
namespace Go.Proofs.YtfdfahjmonlbiaaGreatDoor
open Go.ChangeShapes Go.WideShapes Go.ChangeAt Go.RowKit
theorem zFv {P:Program} {w:World}:DE P w [] [] [] [] [] [] [] []:= .nil
theorem zyU {P:Program} {w:World} {t:TypeId} {ts:List TypeId} {v:Value} {vs:List Value} {x:AV} {xs:List AV} {f rf:List Nat} (h:Rd w [v] [x] f) (k:DE P w ts [] [] vs xs rf [] []):DE P w (t::ts) [] [] (v::vs) (x::xs) (f++rf) [] []:=
 DE.cons (h:= []) (hs:= []) (ms:= []) (lo:= []) ⟨h,rfl⟩ k
theorem zGp {P:Program} {sg:BT} {f:Nat} {fn:Func} {t:TypeId} {xs:List AV} (h:Ck P sg f xs (.bool true)) (hf:f<1000000) {s:HC} (hs:sg f=some s) (Ek:s.ft= []) (Hi: ∀m∈s.cr,m= .ro) (Ej:GV P t s.res=false) (Hb:P.funcs[f]?=some fn) (hr:fn.resultTypes.toList= [t])
  {w:World} {vs:List Value} {rf:List Nat} (ha:DE P w fn.params.toList [] [] vs xs rf [] []) (Ed:FL.n≤w.heap.size∧FL.K w):
  Calls P f vs.toArray w fun e w'=>e= .returned (.bool true)∧Below w.heap.size w w':=by
 unfold Ck at h;rw [if_pos hf]at h;obtain⟨s',Bb,fn',Jx,_,_,_,_,_,hc⟩:=h;rw [hs]at Bb;obtain rfl:=Option.some.inj Bb;rw [Hb]at Jx;obtain rfl:=Option.some.inj Jx;refine(hc w vs rf [] [] (by rw [Ek,List.append_nil];exact ha.jn _ _ Hi) (by simp) (by simp) (by simp) ⟨Ed.1,Ed.2,by simp⟩).mono fun e w' ⟨v,he,hp⟩=> ?_;obtain⟨⟨R,bs,f1,o1,f2,o2,hR,AS,_⟩,hm⟩:=hp;have hRt:R= .bool true:=by
  cases bs with
  |nil=>exact hR.symm
  |cons=>cases hR
 subst hRt;rw [hr]at AS;have h2:ES P w' t s.res v (.bool true) f1 o1:=AS;unfold ES at h2;rw [Ej]at h2;obtain⟨h3,_⟩:=h2;have:v= .bool true:=by cases h3;rfl
 subst this;exact⟨he,hm.below⟩
section
variable {P:Program} {t:TypeId} {Q:List AV→Prop} {H:Type} {enc:TypeId × Value→H} {w:World} {spare:Nat→Bool} {held:Bool} {v:Value} {d:DataW H} {p:List MemPlace} {r:Reach} {base:Nat}
theorem zHP (hO:CB P t Q) (hc:v.cells= #[v]) (h:DataW.Trod enc P w 0 spare held t v d p): ∃x f,Rd w [v] [x] f∧Q [x]:=by
 obtain⟨n,h⟩:=h;rw [hc]at h;obtain⟨_,_,xs,f,hr,hq⟩:=hO.2 _ _ _ _ _ _ _ _ h;have hl:=hr.len
 match xs,hl with
 | [x],_=>exact⟨x,f,hr,hq⟩
theorem zBF {fs:Array Field} (hO:CB P t Q) (ht:P.underlying t=some (.struct fs)) (hv:Value.okWide P w r base t v) (h:DataW.Trod enc P w 0 spare held t v d p): ∃xs f,Rd w [v] [.agg xs] f∧Q xs:=by obtain⟨n,h⟩:=h;obtain⟨cs,rfl,_⟩:=okWide_struct ht hv;obtain⟨_,h1,xs,f,hr,hq⟩:=hO.2 _ _ _ _ _ _ _ _ h;refine⟨xs,f++ [], ?_,hq⟩;have:=Rd.agg (w:=w) h1 hr .nil;simpa [Value.cells]using this
theorem zDN {e:TypeId} (hO:CB P t Q) (ht:P.underlying t=some (.slice e)) (hv:Value.okWide P w r base t v) (h:DataW.Trod enc P w 0 spare held t v d p): ∃x f,Rd w [v] [x] f∧Q [x]:=by obtain⟨a,l,c,rfl⟩:=okWide_slice ht hv;exact zHP hO rfl h
end
theorem zI7 {a b:Bool} (ha:a=true) (hb:b=true):(a&&b)=true:=by rw [ha,hb];rfl
def H9 (n:Int):Prop:= -9223372036854775808≤n∧n≤9223372036854775807
def okB (_:Bool):Prop:=True
def Jk (s:List UInt8):Prop:=s.length≤9223372036854775807
def Fe {α:Type} (ok:α→Prop) (l:List α):Prop:=l.length≤9223372036854775807∧ ∀x∈l,ok x
theorem zKr {n:Int} (h:ET .i64 n):H9 n:=by unfold ET at h;rw [IntKind.wrap_i64]at h;unfold H9;omega
section
variable {P:Program} {t e:TypeId} {α:Type} {ok:α→Prop} {av:α→AV}
theorem zKf (ht:P.underlying t=some (.int .i64)) (hc:P.cellsOf t=1):CB P t fun xs=> ∃n,H9 n∧xs= [Ug n]:=
 (zHw ht hc).mono fun _ ⟨n,h,e⟩=>⟨n,zKr h,e⟩
theorem opB (ht:P.underlying t=some .bool) (hc:P.cellsOf t=1):CB P t fun xs=> ∃b,okB b∧xs= [s6 b]:=
 (zFi ht hc).mono fun _ ⟨b,e⟩=>⟨b,trivial,e⟩
theorem zKl (ht:P.underlying t=some .string) (hc:P.cellsOf t=1):CB P t fun xs=> ∃s,Jk s∧xs= [GX s]:=
 (zCd ht hc).mono fun _ ⟨s,h,e⟩=>⟨s,h,e⟩
theorem wG: ∀{ys:List AV},(∀y∈ys,IK true (fun xs=> ∃c,ok c∧ .agg xs=av c) y)→ ∃l:List α,(∀c∈l,ok c)∧ys=l.map av
 | [],_=>⟨[],by simp,rfl⟩
 |y::ys,h=>by obtain⟨l,hl,rfl⟩:=wG fun z hz=>h z (List.mem_cons_of_mem _ hz);have h0:=h y (List.mem_cons_self ..);simp only [IK,if_true]at h0;obtain⟨zs,rfl,c,hk,hc⟩:=h0;exact⟨c::l,by simpa using⟨hk,hl⟩,by simp [hc]⟩
theorem u4: ∀{ys:List AV},(∀y∈ys,IK false (fun xs=> ∃c,ok c∧xs= [av c]) y)→ ∃l:List α,(∀c∈l,ok c)∧ys=l.map av
 | [],_=>⟨[],by simp,rfl⟩
 |y::ys,h=>by obtain⟨l,hl,rfl⟩:=u4 fun z hz=>h z (List.mem_cons_of_mem _ hz);have h0:=h y (List.mem_cons_self ..);simp only [IK,AM,if_false]at h0;obtain⟨_,c,hk,hc⟩:=h0;exact⟨c::l,by simpa using⟨hk,hl⟩,by simp at hc;simp [hc]⟩
theorem XL (ht:P.underlying t=some (.slice e)) (hc:P.cellsOf t=1) (he:CB P e fun xs=> ∃c,ok c∧ .agg xs=av c):CB P t fun xs=> ∃l:List α,Fe ok l∧xs= [.sl (l.map av)]:=
 (zyJ true ht hc he (.inl rfl)).mono fun _ ⟨ys,hl,hy,e⟩=>by obtain⟨l,hk,rfl⟩:=wG hy;exact⟨l,⟨by simpa using hl,hk⟩,e⟩
theorem zP (ht:P.underlying t=some (.slice e)) (hc:P.cellsOf t=1) (Mi:P.cellsOf e=1) (he:CB P e fun xs=> ∃c,ok c∧xs= [av c]):CB P t fun xs=> ∃l:List α,Fe ok l∧xs= [.sl (l.map av)]:=
 (zyJ false ht hc he (.inr Mi)).mono fun _ ⟨ys,hl,hy,e⟩=>by obtain⟨l,hk,rfl⟩:=u4 hy;exact⟨l,⟨by simpa using hl,hk⟩,e⟩
end
end Go.Proofs.YtfdfahjmonlbiaaGreatDoor
end
section
namespace Go.Proofs.YtfdfahjmonlbiaaGreatDoor
open Go.RowKit
set_option maxRecDepth 100000
structure Ab where
 af:List UInt8
 ay:List UInt8
 bf:Bool
@[simp] def Wn (x:Ab):AV:= .agg [.str x.af, .str x.ay, .bool x.bf]
structure Au where
 ab:List UInt8
 bh:Int
 ao:Int
@[simp] def XJ (x:Au):AV:= .agg [.str x.ab, .int .i64 x.bh, .int .i64 x.ao]
structure Ad where
 ab:List UInt8
 aq:List (List UInt8)
 ah:List Au
@[simp] def Wx (x:Ad):AV:= .agg [.str x.ab, .sl (x.aq.map GX), .sl (x.ah.map XJ)]
structure AA where
 ab:List UInt8
 ak:List Ad
 bj:List Int
 au:List Ab
@[simp] def wT (x:AA):AV:= .agg [.str x.ab, .sl (x.ak.map Wx), .sl (x.bj.map Ug), .sl (x.au.map Wn)]
structure AJ where
 al:List UInt8
 bc:Bool
@[simp] def x8 (x:AJ):AV:= .agg [.str x.al, .bool x.bc]
structure AI where
 ae:AA
 ch:AJ
 a8:AJ
@[simp] def jG (x:AI):AV:= .agg [.str x.ae.ab, .sl (x.ae.ak.map Wx), .sl (x.ae.bj.map Ug), .sl (x.ae.au.map Wn), .str x.ch.al, .bool x.ch.bc, .str x.a8.al, .bool x.a8.bc]
structure AL where
 ar:List (List UInt8)
@[simp] def zR (x:AL):AV:= .agg [.sl (x.ar.map GX)]
structure Bf where
 aj:Int
 bg:AL
 bm:AL
@[simp] def u7 (x:Bf):AV:= .agg [.int .i64 x.aj, .sl (x.bg.ar.map GX), .sl (x.bm.ar.map GX)]
structure CW where
 ax:Int
 a7:Int
 fAct:Bf
@[simp] def zvv (x:CW):AV:= .agg [.int .i64 x.ax, .int .i64 x.a7, .int .i64 x.fAct.aj, .sl (x.fAct.bg.ar.map GX), .sl (x.fAct.bm.ar.map GX)]
structure Bm where
 aj:Int
 br:Int
 fAct:CW
@[simp] def cC (x:Bm):AV:= .agg [.int .i64 x.aj, .int .i64 x.br, .int .i64 x.fAct.ax, .int .i64 x.fAct.a7, .int .i64 x.fAct.fAct.aj, .sl (x.fAct.fAct.bg.ar.map GX), .sl (x.fAct.fAct.bm.ar.map GX)]
structure Ax where
 aj:Int
 af:List UInt8
 ay:List UInt8
 jq:Int
@[simp] def zKL (x:Ax):AV:= .agg [.int .i64 x.aj, .str x.af, .str x.ay, .int .i64 x.jq]
structure zip where
 af:List UInt8
 ay:List UInt8
 dh:Bool
@[simp] def zJ7 (x:zip):AV:= .agg [.str x.af, .str x.ay, .bool x.dh]
structure B0 where
 a6:List UInt8
 cc:List Ax
@[simp] def zJd (x:B0):AV:= .agg [.str x.a6, .sl (x.cc.map zKL)]
end Go.Proofs.YtfdfahjmonlbiaaGreatDoor
end
section
namespace Go.Proofs.YtfdfahjmonlbiaaGreatDoor
open Go.ChangeShapes Go.WideShapes Go.ChangeAt Go.RowKit
set_option maxRecDepth 100000
theorem OI:CB Tryz.prog 9 fun xs=> ∃s,Jk s∧xs= [GX s]:=zKl Tryz.underlying9 (by kernel_rfl)
theorem uN:CB Tryz.prog 57 fun xs=> ∃l:List (List UInt8),Fe Jk l∧xs= [.sl (l.map GX)]:=zP Tryz.underlying57 (by kernel_rfl) (by kernel_rfl) OI
theorem MN:CB Tryz.prog 3 fun xs=> ∃n,H9 n∧xs= [Ug n]:=zKf Tryz.underlying3 (by kernel_rfl)
def Uo (x:Au):Prop:=Jk x.ab∧H9 x.bh∧H9 x.ao
theorem op7:CB Tryz.prog 227 fun xs=> ∃x:Au,Uo x∧ .agg xs=XJ x:=
 (KB Tryz.underlying227 (by decide+kernel) (by kernel_rfl) (.cons OI (.cons MN (.cons MN .nil)))).mono fun _ ⟨_,_,e0,⟨x0,k0,h0⟩,_,_,e1,⟨x1,k1,h1⟩,_,_,e2,⟨x2,k2,h2⟩,hz⟩=>by subst h2 hz e2 h1 e1 h0 e0;exact⟨⟨x0,x1,x2⟩,⟨k0,k1,k2⟩,by simp⟩
theorem op6:CB Tryz.prog 125 fun xs=> ∃l:List Au,Fe Uo l∧xs= [.sl (l.map XJ)]:=XL Tryz.underlying125 (by kernel_rfl) op7
def Wv (x:Ad):Prop:=Jk x.ab∧(Fe Jk) x.aq∧(Fe Uo) x.ah
theorem op4:CB Tryz.prog 127 fun xs=> ∃x:Ad,Wv x∧ .agg xs=Wx x:=
 (KB Tryz.underlying127 (by decide+kernel) (by kernel_rfl) (.cons OI (.cons uN (.cons op6 .nil)))).mono fun _ ⟨_,_,e0,⟨x0,k0,h0⟩,_,_,e1,⟨x1,k1,h1⟩,_,_,e2,⟨x2,k2,h2⟩,hz⟩=>by subst h2 hz e2 h1 e1 h0 e0;exact⟨⟨x0,x1,x2⟩,⟨k0,k1,k2⟩,by simp⟩
theorem op3:CB Tryz.prog 22 fun xs=> ∃l:List Ad,Fe Wv l∧xs= [.sl (l.map Wx)]:=XL Tryz.underlying22 (by kernel_rfl) op4
theorem op9:CB Tryz.prog 23 fun xs=> ∃l:List Int,Fe H9 l∧xs= [.sl (l.map Ug)]:=zP Tryz.underlying23 (by kernel_rfl) (by kernel_rfl) MN
theorem z7:CB Tryz.prog 4 fun xs=> ∃b,okB b∧xs= [s6 b]:=opB Tryz.underlying4 (by kernel_rfl)
def Wk (x:Ab):Prop:=Jk x.af∧Jk x.ay∧okB x.bf
theorem zKS:CB Tryz.prog 130 fun xs=> ∃x:Ab,Wk x∧ .agg xs=Wn x:=
 (KB Tryz.underlying130 (by decide+kernel) (by kernel_rfl) (.cons OI (.cons OI (.cons z7 .nil)))).mono fun _ ⟨_,_,e0,⟨x0,k0,h0⟩,_,_,e1,⟨x1,k1,h1⟩,_,_,e2,⟨x2,k2,h2⟩,hz⟩=>by subst h2 hz e2 h1 e1 h0 e0;exact⟨⟨x0,x1,x2⟩,⟨k0,k1,k2⟩,by simp⟩
theorem zKW:CB Tryz.prog 24 fun xs=> ∃l:List Ab,Fe Wk l∧xs= [.sl (l.map Wn)]:=XL Tryz.underlying24 (by kernel_rfl) zKS
def s4 (x:AA):Prop:=Jk x.ab∧(Fe Wv) x.ak∧(Fe H9) x.bj∧(Fe Wk) x.au
theorem op1:CB Tryz.prog 26 fun xs=> ∃x:AA,s4 x∧ .agg xs=wT x:=
 (KB Tryz.underlying26 (by decide+kernel) (by kernel_rfl) (.cons OI (.cons op3 (.cons op9 (.cons zKW .nil))))).mono fun _ ⟨_,_,e0,⟨x0,k0,h0⟩,_,_,e1,⟨x1,k1,h1⟩,_,_,e2,⟨x2,k2,h2⟩,_,_,e3,⟨x3,k3,h3⟩,hz⟩=>by subst h3 hz e3 h2 e2 h1 e1 h0 e0;exact⟨⟨x0,x1,x2,x3⟩,⟨k0,k1,k2,k3⟩,by simp⟩
def Xz (x:AJ):Prop:=Jk x.al∧okB x.bc
theorem zKz:CB Tryz.prog 28 fun xs=> ∃x:AJ,Xz x∧ .agg xs=x8 x:=
 (KB Tryz.underlying28 (by decide+kernel) (by kernel_rfl) (.cons OI (.cons z7 .nil))).mono fun _ ⟨_,_,e0,⟨x0,k0,h0⟩,_,_,e1,⟨x1,k1,h1⟩,hz⟩=>by subst h1 hz e1 h0 e0;exact⟨⟨x0,x1⟩,⟨k0,k1⟩,by simp⟩
def jU (x:AI):Prop:=s4 x.ae∧Xz x.ch∧Xz x.a8
theorem op0:CB Tryz.prog 30 fun xs=> ∃x:AI,jU x∧ .agg xs=jG x:=
 (KB Tryz.underlying30 (by decide+kernel) (by kernel_rfl) (.cons op1 (.cons zKz (.cons zKz .nil)))).mono fun _ ⟨_,_,e0,⟨x0,k0,h0⟩,_,_,e1,⟨x1,k1,h1⟩,_,_,e2,⟨x2,k2,h2⟩,hz⟩=>by have g2:=AV.agg.inj h2;have g1:=AV.agg.inj h1;have g0:=AV.agg.inj h0;subst g2 hz e2 g1 e1 g0 e0;exact⟨⟨x0,x1,x2⟩,⟨k0,k1,k2⟩,by simp⟩
def XP (x:AL):Prop:=(Fe Jk) x.ar
theorem zW:CB Tryz.prog 59 fun xs=> ∃x:AL,XP x∧ .agg xs=zR x:=
 (KB Tryz.underlying59 (by decide+kernel) (by kernel_rfl) (.cons uN .nil)).mono fun _ ⟨_,_,e0,⟨x0,k0,h0⟩,hz⟩=>by subst h0 hz e0;exact⟨⟨x0⟩,k0,by simp⟩
def sC (x:Bf):Prop:=H9 x.aj∧XP x.bg∧XP x.bm
theorem zKQ:CB Tryz.prog 61 fun xs=> ∃x:Bf,sC x∧ .agg xs=u7 x:=
 (KB Tryz.underlying61 (by decide+kernel) (by kernel_rfl) (.cons MN (.cons zW (.cons zW .nil)))).mono fun _ ⟨_,_,e0,⟨x0,k0,h0⟩,_,_,e1,⟨x1,k1,h1⟩,_,_,e2,⟨x2,k2,h2⟩,hz⟩=>by have g2:=AV.agg.inj h2;have g1:=AV.agg.inj h1;subst g2 hz e2 g1 e1 h0 e0;exact⟨⟨x0,x1,x2⟩,⟨k0,k1,k2⟩,by simp⟩
def qC (x:CW):Prop:=H9 x.ax∧H9 x.a7∧sC x.fAct
theorem zKO:CB Tryz.prog 63 fun xs=> ∃x:CW,qC x∧ .agg xs=zvv x:=
 (KB Tryz.underlying63 (by decide+kernel) (by kernel_rfl) (.cons MN (.cons MN (.cons zKQ .nil)))).mono fun _ ⟨_,_,e0,⟨x0,k0,h0⟩,_,_,e1,⟨x1,k1,h1⟩,_,_,e2,⟨x2,k2,h2⟩,hz⟩=>by have g2:=AV.agg.inj h2;subst g2 hz e2 h1 e1 h0 e0;exact⟨⟨x0,x1,x2⟩,⟨k0,k1,k2⟩,by simp⟩
def V3 (x:Bm):Prop:=H9 x.aj∧H9 x.br∧qC x.fAct
theorem zKP:CB Tryz.prog 65 fun xs=> ∃x:Bm,V3 x∧ .agg xs=cC x:=
 (KB Tryz.underlying65 (by decide+kernel) (by kernel_rfl) (.cons MN (.cons MN (.cons zKO .nil)))).mono fun _ ⟨_,_,e0,⟨x0,k0,h0⟩,_,_,e1,⟨x1,k1,h1⟩,_,_,e2,⟨x2,k2,h2⟩,hz⟩=>by have g2:=AV.agg.inj h2;subst g2 hz e2 h1 e1 h0 e0;exact⟨⟨x0,x1,x2⟩,⟨k0,k1,k2⟩,by simp⟩
theorem zKN:CB Tryz.prog 31 fun xs=> ∃l:List Bm,Fe V3 l∧xs= [.sl (l.map cC)]:=XL Tryz.underlying31 (by kernel_rfl) zKP
end Go.Proofs.YtfdfahjmonlbiaaGreatDoor
end
section
namespace Go.Proofs.YtfdfahjmonlbiaaGreatDoor
open Go.RowKit
set_option maxRecDepth 100000
def I9 {α:Type} (p:α→Option Bool):List α→Option (List α)
 | []=>some []
 |x::xs=>(p x).bind fun b=>(I9 p xs).bind fun r=>some (if b=true then r else x::r)
noncomputable def IW {α:Type} (xs:List α) (p:α→Option Bool):Option (List α):=AD (xs.length≤9223372036854775806) (I9 p xs)
theorem bF {α:Type} {p:α→Option Bool} (q:α→Bool): ∀{l:List α},(∀x∈l,p x=some (q x))→I9 p l=some (l.filter fun x=> !q x)
 | [],_=>rfl
 |x::l,h=>by have e:=bF (p:=p) q (l:=l) fun y hy=>h y (List.mem_cons_of_mem _ hy);simp only [I9,h x (by simp),e,Aa,List.filter_cons];cases q x<;>rfl
theorem zrE {α:Type} {p:α→Option Bool} {l r:List α} {q:Nat} (hq:q<l.length) (h:I9 p (l.drop q)=some r): ∃b r',p l[q]=some b∧I9 p (l.drop (q+1))=some r'∧r=if b=true then r' else l[q]::r':=by rw [List.drop_eq_getElem_cons hq]at h;obtain⟨b,hb,h⟩:=Ji h;obtain⟨r',hr,h⟩:=Ji h;exact⟨b,r',hb,hr,by simpa using h.symm⟩
theorem oW {α:Type} {p:α→Option Bool}: ∀{l r:List α} (i:Int),I9 p l=some r→(D6 p l i=some (-1)∧r=l)∨ ∃k r',k<l.length∧D6 p l i=some (i+(k:Nat))∧I9 p (l.drop (k+1))=some r'∧r=l.take k++r'
 | [],r,i,h=>by cases h;exact .inl ⟨rfl,rfl⟩
 |x::l,r,i,h=>by
  obtain⟨b,hb,h⟩:=Ji h;obtain⟨r1,hr,h⟩:=Ji h;cases b with
  |true=>
   have:r1=r:=by simpa using h
   subst this;exact .inr ⟨0,r1,by simp,by simp [D6,hb],by simpa using hr,by simp⟩
  |false=>
   have:r=x::r1:=by simpa using h.symm
   subst this;rcases oW (i+1) hr with⟨h1,rfl⟩|⟨k,r',h1,h2,h3,rfl⟩
   ·exact .inl ⟨by simp [D6,hb,h1],rfl⟩
   ·exact .inr ⟨k+1,r',by simp;omega,by simp [D6,hb,h2];omega,by simpa using h3,by simp⟩
def kB (ck:List Cn) (k:Tr):Tr:=ck.foldr (fun c k=> .bt [] c k) k
section
variable {Rt:Nat→List AV→AV→Prop} {R:AV→Prop} {L:LK} {js:List JK} {ρ:List AV}
theorem rU: ∀{ck:List Cn} {k:Tr},(∀c∈ck,c.den ρ)→k.den Rt R L js ρ→(kB ck k).den Rt R L js ρ
 | [],_,_,hk=>hk
 |c::ck,k,h,hk=>⟨fun _=>h c (by simp),rU (fun q hq=>h q (by simp [hq])) hk⟩
theorem vJ {t k:Tr} {K:List AV→Prop} (hK: ∀vs,K vs→k.den Rt R L js (ρ++vs)) (ht: ∀j:JK,(∀vs,K vs→j vs)→t.den Rt R L (j::js) ρ):(Tr.join t k).den Rt R L js ρ:=ht _ hK
end
def XT (fi cn:Nat) (g:Bool) (X:E) (ck:List Cn) (z:E):Tr:=
 .call [] (.inl fi) (.cons (.var 0) (.cons (.var 1) .nil))<|
 .bt [] (.dfd (.bin .eql (.var 2) (.int .i64 (-1))))<|
 .ite (.bin .eql (.var 2) (.int .i64 (-1))) (
  .ret (.var 0)) (
  .bt [] (.dfd (.bin .add (.var 2) (.int .i64 (1))))<|
  .loop (.cons (.var 2) (.cons (.bin .add (.var 2) (.int .i64 (1))) (.cons (.var 0) .nil))) (
  .bt [] (.dfd (.len (.var 5)))<|
  .bt [] (.dfd (.bin .lss (.var 4) (.len (.var 5))))<|
  .ite (.bin .lss (.var 4) (.len (.var 5))) (
   .join (
   .bt [] (.inb (.var 4) (.var 5) cn)<|
   kB ck<|
   .call [] (.inr (.var 1)) (.cons X .nil)<|
   .bt [] (.dfd (.not (.var 6)))<|
   .ite (.not (.var 6)) (
    .bt [] (.inb (.var 3) (.var 5) cn)<|
    .bt [] (.flat X cn g)<|
    .bt [] (.flat (.fld (.idx (.var 5) (.var 3)) 0 cn g) cn g)<|
    .bt [] (.dfd (.bin .add (.var 3) (.int .i64 (1))))<|
    .jmp 0 (.cons (.bin .add (.var 3) (.int .i64 (1))) (.cons (.set (.var 5) (.var 3) (.put (.idx (.var 5) (.var 3)) 0 X g)) .nil))) (
    .jmp 0 (.cons (.var 3) (.cons (.var 5) .nil)))) (
   .bt [] (.dfd (.bin .add (.var 4) (.int .i64 (1))))<|
   .jmp 0 (.cons (.var 6) (.cons (.bin .add (.var 4) (.int .i64 (1))) (.cons (.var 7) .nil))))) (
   .jmp 1 (.cons (.var 3) (.cons (.var 5) .nil)))) (
  .bt [] (.win (.var 4) (.var 3) (.len (.var 4)))<|
  .bt [] (.win (.var 4) (.var 3) (.len (.var 4)))<|
  .bt [] (.dfd (.bin .sub (.len (.var 4)) (.var 3)))<|
  .bt [] (.win (.app (.win (.var 4) (.int .i64 (0)) (.var 3)) (.rep (.bin .sub (.len (.var 4)) (.var 3)) z)) (.int .i64 (0)) (.var 3))<|
  .ret (.win (.app (.win (.var 4) (.int .i64 (0)) (.var 3)) (.rep (.bin .sub (.len (.var 4)) (.var 3)) z)) (.int .i64 (0)) (.var 3))))
theorem xE {α:Type} {av:α→AV} {l r:List α} {p:α→Option Bool} {fi cn g9:Nat} {g:Bool} {X z:E} {ck:List Cn} {caps:List AV}
  (hs: ∀x,(av x).cells.length=cn∧(∀z∈(av x).cells,z.scalar=true)∧(g=true→ ∃cs,av x= .agg cs)∧(g=false→(av x).scalar=true)) (hcn:0<cn)
  (hX: ∀(a b c d:AV) (j:Nat) (ys:List AV) (x:α) (tl:List AV),ys[j]?=some (av x)→X.den ([a,b,c,d, .int .i64 j, .sl ys]++tl)=av x)
  (Js: ∀(a b c d:AV) (j:Nat) (ys:List AV) (x:α),ys[j]?=some (av x)→ ∀q∈ck,q.den [a,b,c,d, .int .i64 j, .sl ys])
  (h:IW l p=some r) (hi: ∀i,Ff l p=some i→Ck Tryz.prog Cj fi [.sl (l.map av), .fn g9 caps] (.int .i64 i))
  (hf: ∀x b,p x=some b→Ck Tryz.prog Cj (1000000+g9) (av x::caps) (.bool b)):Den (XT fi cn g X ck z) (.sl (r.map av)) [.sl (l.map av), .fn g9 caps]:=by
 obtain⟨hn,h⟩:=Gw h;unfold Den XT;have Ik: ∀x y:α,(av y).dd 0 (av x) g=av x:=by
  intro x y;cases g with
  |false=>rfl
  |true=>
   obtain⟨cs,Bi⟩:=(hs x).2.2.1 rfl;have e1:=(hs x).1;have e2:=(hs y).1;have e3:(av x).cells=cs:=by rw [Bi];rfl
   have e4:(av y).cells.drop (0+cs.length)= []:=List.drop_eq_nil_of_le (by rw [e2,←e1,e3];omega);show AV.agg ((av y).cells.take 0++(av x).cells++(av y).cells.drop (0+(av x).cells.length))=av x;rw [e3,e4,List.append_nil,List.take_zero,List.nil_append,Bi]
 have fA: ∀x:α,(av x).fld 0 cn g=av x:=by
  intro x;cases g with
  |false=>have:=zzf ((hs x).2.2.2 rfl);simp [AV.fld,this]
  |true=>obtain⟨cs,Bi⟩:=(hs x).2.2.1 rfl;have e1:=(hs x).1;rw [Bi]at e1 ⊢;simp only [AV.fld,if_true,AV.cells]at e1 ⊢;rw [List.drop_zero,List.take_of_length_le (by omega)]
 have BB: ∀(e:E) (ρ:List AV) (x:α),e.den ρ=av x→Cn.den ρ (.flat e cn g):=fun e ρ x he=>by
  show(e.den ρ).cells.length=cn∧(∀y∈(e.den ρ).cells,y.scalar=true)∧(g=true→ ∃cs,e.den ρ= .agg cs)∧(g=false→(e.den ρ).scalar=true)
  rw [he];exact hs x
 rcases oW 0 h with⟨h1,rfl⟩|⟨k0,r0,K8,h1,h2,rfl⟩
 ·refine V7 (r:= .int .i64 (-1)) (fun _=>hi _ (by unfold Ff;rw [show AD (r.length≤9223372036854775806) (D6 p r 0)=D6 p r 0 from if_pos hn];exact h1)) ?_;exact B3 (by simp [BL]) (Er (t:=true) (by simp [BL]) (fun _=>Iz (by simp)) (by simp))
 ·refine V7 (r:= .int .i64 k0) (fun _=>hi _ (by unfold Ff;rw [show AD (l.length≤9223372036854775806) (D6 p l 0)=D6 p l 0 from if_pos hn,h1];simp)) ?_;have hw:IntKind.i64.wrap ((k0:Int)+1)=k0+1:=A9 (by omega) (by omega);refine B3 (by simp [BL]) (Er (t:=false) (by simp [BL];try omega) (by simp) fun _=>B3 (by simp [BL]) ?_);refine rG aO (fun m vs=> ∃(j:Nat) (K zs r':List α),j+m=l.length∧vs= [.int .i64 K.length, .int .i64 j, .sl (zs.map av)]∧K.length<j∧zs.length=l.length∧zs.take K.length=K∧zs.drop j=l.drop j∧I9 p (l.drop j)=some r'∧l.take k0++r0=K++r') (m:=l.length-(k0+1))
   ⟨k0+1,l.take k0,l,r0,by omega, ?_,by simp;omega,rfl,by simp [Nat.min_eq_left (Nat.le_of_lt K8)],rfl,h2,rfl⟩ ?_
  ·simp [BL,hw,Nat.min_eq_left (Nat.le_of_lt K8)]
  rintro m vs ⟨j,K,zs,r',hj,rfl,hKj,Lm,OH,OE,CT,AS⟩;refine B3 (by simp) (B3 (by simp [BL]) ?_);by_cases An:j<l.length
  ·refine Er (t:=true) (by simp [BL,Lm,An]) (fun _=> ?_) (by simp);obtain⟨b,r2,hb,C5,ME⟩:=zrE An CT;have T4:zs[j]?=some l[j]:=by
    have:=congrArg (fun L=>L[0]?) OE;simpa [An]using this
   have Fv:(zs.map av)[j]?=some (av l[j]):=by simp [T4]
   have Jo:K.length<zs.length:=by omega
   have iL:IntKind.i64.wrap ((j:Int)+1)=j+1:=A9 (by omega) (by omega);have P8:IntKind.i64.wrap ((K.length:Int)+1)=K.length+1:=A9 (by omega) (by omega);refine vJ (K:=fun us=> ∃(K' zs':List α),us= [.int .i64 K'.length, .sl (zs'.map av)]∧K'.length<j+1∧zs'.length=l.length∧zs'.take K'.length=K'∧zs'.drop (j+1)=l.drop (j+1)∧l.take k0++r0=K'++r2) ?_ ?_
   ·rintro us ⟨K',zs',rfl,a1,a2,a3,a4,a5⟩;refine B3 (by simp [BL]) (Ns ⟨m-1,by omega,j+1,K',zs',r2,by omega, ?_,a1,a2,a3,a4,C5,a5⟩);simp [BL,iL]
   ·intro J hJ;refine B3 (fun _=>⟨.i64,j,zs.length,by simp,by omega,by simp,by omega, ?_⟩) (rU (Js _ _ _ _ j (zs.map av) _ Fv) (bZ (r:= .bool b) (fun _=>⟨g9,caps,by simp, ?_,by simp⟩) ?_))
    ·simp [AV.nth,T4,(hs l[j]).1]
    ·have e1:=hX (.sl (l.map av)) (.fn g9 caps) (.int .i64 k0) (.int .i64 K.length) j (zs.map av) l[j] [] Fv;rw [List.append_nil]at e1;show Ck Tryz.prog Cj (1000000+g9) ([X.den [.sl (l.map av), .fn g9 caps, .int .i64 k0, .int .i64 K.length, .int .i64 j, .sl (zs.map av)]]++caps) (.bool b);rw [e1];exact hf _ _ hb
    ·refine B3 (by simp) ?_;have e2:=hX (.sl (l.map av)) (.fn g9 caps) (.int .i64 k0) (.int .i64 K.length) j (zs.map av) l[j] [.bool b] Fv;cases b with
     |true=>refine Er (t:=false) (by simp) (by simp) fun _=>Ns (hJ _ ⟨K,zs,by simp,by omega,Lm,OH, ?_,by rw [AS,ME];simp⟩);have:=congrArg (List.drop 1) OE;simpa [List.drop_drop]using this
     |false=>
      refine Er (t:=true) (by simp) (fun _=> ?_) (by simp);obtain⟨zk,MK⟩: ∃zk,zs[K.length]?=some zk:=⟨zs[K.length],by simp [Jo]⟩
      have e3:(E.idx (.var 5) (.var 3)).den ([AV.sl (l.map av), .fn g9 caps, .int .i64 k0, .int .i64 K.length, .int .i64 j, .sl (zs.map av)]++ [.bool false])=av zk:=by simp [AV.nth,MK]
      refine B3 (fun _=>⟨.i64,K.length,zs.length,by simp,by omega,by simp,by omega, ?_⟩) (B3 (fun _=>BB _ _ _ e2) (B3 (fun _=>BB _ _ zk ?_) (B3 (by simp [BL]) (Ns (hJ _ ⟨K++ [l[j]],zs.set K.length l[j], ?_,by simp;omega,by simpa using Lm, ?_, ?_,by rw [AS,ME];simp⟩)))))
      ·simp [AV.nth,MK,(hs zk).1]
      ·exact(congrArg (fun y=>AV.fld y 0 cn g) e3).trans (fA zk)
      ·have e4:(E.set (.var 5) (.var 3) (.put (.idx (.var 5) (.var 3)) 0 X g)).den ([AV.sl (l.map av), .fn g9 caps, .int .i64 k0, .int .i64 K.length, .int .i64 j, .sl (zs.map av)]++ [.bool false])= .sl ((zs.set K.length l[j]).map av):=by
        show AV.cz _ _ (AV.dd ((E.idx (.var 5) (.var 3)).den _) 0 (X.den _) g)=_;rw [e3,e2,Ik];simp [AV.cz,List.map_set]
       show EL.den _ (.cons (.bin .add (.var 3) (.int .i64 1)) (.cons (.set (.var 5) (.var 3) (.put (.idx (.var 5) (.var 3)) 0 X g)) .nil))=_;simp only [EL.den];have e5:(E.bin .add (.var 3) (.int .i64 1)).den ([AV.sl (l.map av), .fn g9 caps, .int .i64 k0, .int .i64 K.length, .int .i64 j, .sl (zs.map av)]++ [.bool false])= .int .i64 ((K++ [l[j]]).length:Int):=by simp [BL,P8]
       congr 1;congr 1
      ·rw [As,AF,List.take_add_one,List.take_set_of_le (Nat.le_refl _),OH];simp [Jo]
      ·rw [List.drop_set_of_lt (by omega)];have:=congrArg (List.drop 1) OE;simpa [List.drop_drop]using this
  ·have fQ:j=l.length:=by omega
   subst fQ;refine Er (t:=false) (by simp [BL,Lm]) (by simp) fun _=>cR ?_;have GG:r'= []:=by rw [List.drop_eq_nil_of_le (Nat.le_refl _)]at CT;exact(by simpa [I9]using CT.symm)
   subst GG;rw [AS,List.append_nil];have MJ:IntKind.i64.wrap ((zs.length:Int)-K.length)=zs.length-K.length:=A9 (by omega) (by omega);have d3:(E.var 3).den ([AV.sl (l.map av),AV.fn g9 caps]++ [AV.int .i64 (k0:Int)]++ [AV.int .i64 (K.length:Int),AV.sl (zs.map av)])= .int .i64 K.length:=by simp
   have d4:(E.var 4).den ([AV.sl (l.map av),AV.fn g9 caps]++ [AV.int .i64 (k0:Int)]++ [AV.int .i64 (K.length:Int),AV.sl (zs.map av)])= .sl (zs.map av):=by simp
   have dm:(E.bin .sub (.len (.var 4)) (.var 3)).den ([AV.sl (l.map av),AV.fn g9 caps]++ [AV.int .i64 (k0:Int)]++ [AV.int .i64 (K.length:Int),AV.sl (zs.map av)])= .int .i64 ((zs.length:Int)-K.length):=by simp [BL,MJ]
   have Hl:Cn.den ([AV.sl (l.map av),AV.fn g9 caps]++ [AV.int .i64 (k0:Int)]++ [AV.int .i64 (K.length:Int),AV.sl (zs.map av)]) (.win (.var 4) (.var 3) (.len (.var 4))):=⟨.i64,K.length, .i64,zs.length,zs.length,d3,by simp,by rw [d4];simp,by omega,by omega,by omega⟩
   have dapp:(E.app (.win (.var 4) (.int .i64 (0)) (.var 3)) (.rep (.bin .sub (.len (.var 4)) (.var 3)) z)).den ([AV.sl (l.map av),AV.fn g9 caps]++ [AV.int .i64 (k0:Int)]++ [AV.int .i64 (K.length:Int),AV.sl (zs.map av)])= .sl ((zs.map av).take K.length++List.replicate (zs.length-K.length) (z.den ([AV.sl (l.map av),AV.fn g9 caps]++ [AV.int .i64 (k0:Int)]++ [AV.int .i64 (K.length:Int),AV.sl (zs.map av)]))):=by show AV.app (AV.win ((E.var 4).den _) (.int .i64 0) ((E.var 3).den _)) (AV.rep ((E.bin .sub (.len (.var 4)) (.var 3)).den _) _)=_;rw [d3,d4,dm];simp only [AV.win,AV.rep,AV.app,Int.toNat_natCast,Int.toNat_zero,List.drop_zero];congr 3;omega
   refine B3 (fun _=>Hl) (B3 (fun _=>Hl) (B3 (fun _=>fun hu=>by have:=dm.symm.trans hu;simp at this) (B3 (fun _=>⟨.i64,0, .i64,K.length,zs.length,rfl,d3, ?_,by omega,by omega,by omega⟩) (Iz ?_))))
   ·refine(congrArg AV.len dapp).trans ?_;simp only [AV.len,As,List.length_take,List.length_map,List.length_replicate];congr 1;omega
   ·refine(congrArg (fun y=>AV.win y (.int .i64 0) (.int .i64 K.length)) dapp).trans ?_;simp only [AV.win,Int.toNat_natCast,Int.toNat_zero,List.drop_zero];rw [List.take_append_of_le_length (by simp;omega),List.take_take,Nat.min_self,←List.map_take,OH]
def jB (fi cn:Nat) (X:E) (ck:List Cn) (z:E):Tr:=
 .call [] (.inl fi) (.cons (.var 0) (.cons (.var 1) .nil))<|
 .bt [] (.dfd (.bin .eql (.var 2) (.int .i64 (-1))))<|
 .ite (.bin .eql (.var 2) (.int .i64 (-1))) (
  .ret (.var 0)) (
  .bt [] (.dfd (.bin .add (.var 2) (.int .i64 (1))))<|
  .loop (.cons (.var 2) (.cons (.bin .add (.var 2) (.int .i64 (1))) (.cons (.var 0) .nil))) (
  .bt [] (.dfd (.len (.var 5)))<|
  .bt [] (.dfd (.bin .lss (.var 4) (.len (.var 5))))<|
  .ite (.bin .lss (.var 4) (.len (.var 5))) (
   .join (
   .bt [] (.inb (.var 4) (.var 5) cn)<|
   kB ck<|
   .call [] (.inr (.var 1)) (.cons X .nil)<|
   .bt [] (.dfd (.not (.var 6)))<|
   .ite (.not (.var 6)) (
    .bt [] (.inb (.var 3) (.var 5) cn)<|
    .bt [] (.agg X cn)<|
    .bt [] (.dfd (.bin .add (.var 3) (.int .i64 (1))))<|
    .jmp 0 (.cons (.bin .add (.var 3) (.int .i64 (1))) (.cons (.set (.var 5) (.var 3) (.put (.idx (.var 5) (.var 3)) 0 X true)) .nil))) (
    .jmp 0 (.cons (.var 3) (.cons (.var 5) .nil)))) (
   .bt [] (.dfd (.bin .add (.var 4) (.int .i64 (1))))<|
   .jmp 0 (.cons (.var 6) (.cons (.bin .add (.var 4) (.int .i64 (1))) (.cons (.var 7) .nil))))) (
   .jmp 1 (.cons (.var 3) (.cons (.var 5) .nil)))) (
  .bt [] (.win (.var 4) (.var 3) (.len (.var 4)))<|
  .bt [] (.win (.var 4) (.var 3) (.len (.var 4)))<|
  .bt [] (.dfd (.bin .sub (.len (.var 4)) (.var 3)))<|
  .bt [] (.win (.app (.win (.var 4) (.int .i64 (0)) (.var 3)) (.rep (.bin .sub (.len (.var 4)) (.var 3)) z)) (.int .i64 (0)) (.var 3))<|
  .ret (.win (.app (.win (.var 4) (.int .i64 (0)) (.var 3)) (.rep (.bin .sub (.len (.var 4)) (.var 3)) z)) (.int .i64 (0)) (.var 3))))
theorem zGh {α:Type} {av:α→AV} {l r:List α} {p:α→Option Bool} {fi cn g9:Nat} {X z:E} {ck:List Cn} {caps:List AV}
  (hs: ∀x,(av x).cells.length=cn∧ ∃cs,av x= .agg cs) (hcn:0<cn)
  (hX: ∀(a b c d:AV) (j:Nat) (ys:List AV) (x:α) (tl:List AV),ys[j]?=some (av x)→X.den ([a,b,c,d, .int .i64 j, .sl ys]++tl)=av x)
  (Js: ∀(a b c d:AV) (j:Nat) (ys:List AV) (x:α),ys[j]?=some (av x)→ ∀q∈ck,q.den [a,b,c,d, .int .i64 j, .sl ys])
  (h:IW l p=some r) (hi: ∀i,Ff l p=some i→Ck Tryz.prog Cj fi [.sl (l.map av), .fn g9 caps] (.int .i64 i))
  (hf: ∀x b,p x=some b→Ck Tryz.prog Cj (1000000+g9) (av x::caps) (.bool b)):Den (jB fi cn X ck z) (.sl (r.map av)) [.sl (l.map av), .fn g9 caps]:=by
 obtain⟨hn,h⟩:=Gw h;unfold Den jB;have Ik: ∀x y:α,(av y).dd 0 (av x) true=av x:=by
  intro x y;obtain⟨cs,Bi⟩:=(hs x).2;have e1:=(hs x).1;have e2:=(hs y).1;have e3:(av x).cells=cs:=by rw [Bi];rfl
  have e4:(av y).cells.drop (0+cs.length)= []:=List.drop_eq_nil_of_le (by rw [e2,←e1,e3];omega);show AV.agg ((av y).cells.take 0++(av x).cells++(av y).cells.drop (0+(av x).cells.length))=av x;rw [e3,e4,List.append_nil,List.take_zero,List.nil_append,Bi]
 have BB: ∀(e:E) (ρ:List AV) (x:α),e.den ρ=av x→Cn.den ρ (.agg e cn):=fun e ρ x he=>by show∃cs,e.den ρ= .agg cs∧cs.length=cn;rw [he];obtain⟨cs,Bi⟩:=(hs x).2;have e1:=(hs x).1;rw [Bi]at e1;exact⟨cs,Bi,e1⟩
 rcases oW 0 h with⟨h1,rfl⟩|⟨k0,r0,K8,h1,h2,rfl⟩
 ·refine V7 (r:= .int .i64 (-1)) (fun _=>hi _ (by unfold Ff;rw [show AD (r.length≤9223372036854775806) (D6 p r 0)=D6 p r 0 from if_pos hn];exact h1)) ?_;exact B3 (by simp [BL]) (Er (t:=true) (by simp [BL]) (fun _=>Iz (by simp)) (by simp))
 ·refine V7 (r:= .int .i64 k0) (fun _=>hi _ (by unfold Ff;rw [show AD (l.length≤9223372036854775806) (D6 p l 0)=D6 p l 0 from if_pos hn,h1];simp)) ?_;have hw:IntKind.i64.wrap ((k0:Int)+1)=k0+1:=A9 (by omega) (by omega);refine B3 (by simp [BL]) (Er (t:=false) (by simp [BL];try omega) (by simp) fun _=>B3 (by simp [BL]) ?_);refine rG aO (fun m vs=> ∃(j:Nat) (K zs r':List α),j+m=l.length∧vs= [.int .i64 K.length, .int .i64 j, .sl (zs.map av)]∧K.length<j∧zs.length=l.length∧zs.take K.length=K∧zs.drop j=l.drop j∧I9 p (l.drop j)=some r'∧l.take k0++r0=K++r') (m:=l.length-(k0+1))
   ⟨k0+1,l.take k0,l,r0,by omega, ?_,by simp;omega,rfl,by simp [Nat.min_eq_left (Nat.le_of_lt K8)],rfl,h2,rfl⟩ ?_
  ·simp [BL,hw,Nat.min_eq_left (Nat.le_of_lt K8)]
  rintro m vs ⟨j,K,zs,r',hj,rfl,hKj,Lm,OH,OE,CT,AS⟩;refine B3 (by simp) (B3 (by simp [BL]) ?_);by_cases An:j<l.length
  ·refine Er (t:=true) (by simp [BL,Lm,An]) (fun _=> ?_) (by simp);obtain⟨b,r2,hb,C5,ME⟩:=zrE An CT;have T4:zs[j]?=some l[j]:=by
    have:=congrArg (fun L=>L[0]?) OE;simpa [An]using this
   have Fv:(zs.map av)[j]?=some (av l[j]):=by simp [T4]
   have Jo:K.length<zs.length:=by omega
   have iL:IntKind.i64.wrap ((j:Int)+1)=j+1:=A9 (by omega) (by omega);have P8:IntKind.i64.wrap ((K.length:Int)+1)=K.length+1:=A9 (by omega) (by omega);refine vJ (K:=fun us=> ∃(K' zs':List α),us= [.int .i64 K'.length, .sl (zs'.map av)]∧K'.length<j+1∧zs'.length=l.length∧zs'.take K'.length=K'∧zs'.drop (j+1)=l.drop (j+1)∧l.take k0++r0=K'++r2) ?_ ?_
   ·rintro us ⟨K',zs',rfl,a1,a2,a3,a4,a5⟩;refine B3 (by simp [BL]) (Ns ⟨m-1,by omega,j+1,K',zs',r2,by omega, ?_,a1,a2,a3,a4,C5,a5⟩);simp [BL,iL]
   ·intro J hJ;refine B3 (fun _=>⟨.i64,j,zs.length,by simp,by omega,by simp,by omega, ?_⟩) (rU (Js _ _ _ _ j (zs.map av) _ Fv) (bZ (r:= .bool b) (fun _=>⟨g9,caps,by simp, ?_,by simp⟩) ?_))
    ·simp [AV.nth,T4,(hs l[j]).1]
    ·have e1:=hX (.sl (l.map av)) (.fn g9 caps) (.int .i64 k0) (.int .i64 K.length) j (zs.map av) l[j] [] Fv;rw [List.append_nil]at e1;show Ck Tryz.prog Cj (1000000+g9) ([X.den [.sl (l.map av), .fn g9 caps, .int .i64 k0, .int .i64 K.length, .int .i64 j, .sl (zs.map av)]]++caps) (.bool b);rw [e1];exact hf _ _ hb
    ·refine B3 (by simp) ?_;have e2:=hX (.sl (l.map av)) (.fn g9 caps) (.int .i64 k0) (.int .i64 K.length) j (zs.map av) l[j] [.bool b] Fv;cases b with
     |true=>refine Er (t:=false) (by simp) (by simp) fun _=>Ns (hJ _ ⟨K,zs,by simp,by omega,Lm,OH, ?_,by rw [AS,ME];simp⟩);have:=congrArg (List.drop 1) OE;simpa [List.drop_drop]using this
     |false=>
      refine Er (t:=true) (by simp) (fun _=> ?_) (by simp);obtain⟨zk,MK⟩: ∃zk,zs[K.length]?=some zk:=⟨zs[K.length],by simp [Jo]⟩
      have e3:(E.idx (.var 5) (.var 3)).den ([AV.sl (l.map av), .fn g9 caps, .int .i64 k0, .int .i64 K.length, .int .i64 j, .sl (zs.map av)]++ [.bool false])=av zk:=by simp [AV.nth,MK]
      refine B3 (fun _=>⟨.i64,K.length,zs.length,by simp,by omega,by simp,by omega, ?_⟩) (B3 (fun _=>BB _ _ _ e2) (B3 (by simp [BL]) (Ns (hJ _ ⟨K++ [l[j]],zs.set K.length l[j], ?_,by simp;omega,by simpa using Lm, ?_, ?_,by rw [AS,ME];simp⟩))))
      ·simp [AV.nth,MK,(hs zk).1]
      ·have e4:(E.set (.var 5) (.var 3) (.put (.idx (.var 5) (.var 3)) 0 X true)).den ([AV.sl (l.map av), .fn g9 caps, .int .i64 k0, .int .i64 K.length, .int .i64 j, .sl (zs.map av)]++ [.bool false])= .sl ((zs.set K.length l[j]).map av):=by
        show AV.cz _ _ (AV.dd ((E.idx (.var 5) (.var 3)).den _) 0 (X.den _) true)=_;rw [e3,e2,Ik];simp [AV.cz,List.map_set]
       show EL.den _ (.cons (.bin .add (.var 3) (.int .i64 1)) (.cons (.set (.var 5) (.var 3) (.put (.idx (.var 5) (.var 3)) 0 X true)) .nil))=_;simp only [EL.den];have e5:(E.bin .add (.var 3) (.int .i64 1)).den ([AV.sl (l.map av), .fn g9 caps, .int .i64 k0, .int .i64 K.length, .int .i64 j, .sl (zs.map av)]++ [.bool false])= .int .i64 ((K++ [l[j]]).length:Int):=by simp [BL,P8]
       congr 1;congr 1
      ·rw [As,AF,List.take_add_one,List.take_set_of_le (Nat.le_refl _),OH];simp [Jo]
      ·rw [List.drop_set_of_lt (by omega)];have:=congrArg (List.drop 1) OE;simpa [List.drop_drop]using this
  ·have fQ:j=l.length:=by omega
   subst fQ;refine Er (t:=false) (by simp [BL,Lm]) (by simp) fun _=>cR ?_;have GG:r'= []:=by rw [List.drop_eq_nil_of_le (Nat.le_refl _)]at CT;exact(by simpa [I9]using CT.symm)
   subst GG;rw [AS,List.append_nil];have MJ:IntKind.i64.wrap ((zs.length:Int)-K.length)=zs.length-K.length:=A9 (by omega) (by omega);have d3:(E.var 3).den ([AV.sl (l.map av),AV.fn g9 caps]++ [AV.int .i64 (k0:Int)]++ [AV.int .i64 (K.length:Int),AV.sl (zs.map av)])= .int .i64 K.length:=by simp
   have d4:(E.var 4).den ([AV.sl (l.map av),AV.fn g9 caps]++ [AV.int .i64 (k0:Int)]++ [AV.int .i64 (K.length:Int),AV.sl (zs.map av)])= .sl (zs.map av):=by simp
   have dm:(E.bin .sub (.len (.var 4)) (.var 3)).den ([AV.sl (l.map av),AV.fn g9 caps]++ [AV.int .i64 (k0:Int)]++ [AV.int .i64 (K.length:Int),AV.sl (zs.map av)])= .int .i64 ((zs.length:Int)-K.length):=by simp [BL,MJ]
   have Hl:Cn.den ([AV.sl (l.map av),AV.fn g9 caps]++ [AV.int .i64 (k0:Int)]++ [AV.int .i64 (K.length:Int),AV.sl (zs.map av)]) (.win (.var 4) (.var 3) (.len (.var 4))):=⟨.i64,K.length, .i64,zs.length,zs.length,d3,by simp,by rw [d4];simp,by omega,by omega,by omega⟩
   have dapp:(E.app (.win (.var 4) (.int .i64 (0)) (.var 3)) (.rep (.bin .sub (.len (.var 4)) (.var 3)) z)).den ([AV.sl (l.map av),AV.fn g9 caps]++ [AV.int .i64 (k0:Int)]++ [AV.int .i64 (K.length:Int),AV.sl (zs.map av)])= .sl ((zs.map av).take K.length++List.replicate (zs.length-K.length) (z.den ([AV.sl (l.map av),AV.fn g9 caps]++ [AV.int .i64 (k0:Int)]++ [AV.int .i64 (K.length:Int),AV.sl (zs.map av)]))):=by show AV.app (AV.win ((E.var 4).den _) (.int .i64 0) ((E.var 3).den _)) (AV.rep ((E.bin .sub (.len (.var 4)) (.var 3)).den _) _)=_;rw [d3,d4,dm];simp only [AV.win,AV.rep,AV.app,Int.toNat_natCast,Int.toNat_zero,List.drop_zero];congr 3;omega
   refine B3 (fun _=>Hl) (B3 (fun _=>Hl) (B3 (fun _=>fun hu=>by have:=dm.symm.trans hu;simp at this) (B3 (fun _=>⟨.i64,0, .i64,K.length,zs.length,rfl,d3, ?_,by omega,by omega,by omega⟩) (Iz ?_))))
   ·refine(congrArg AV.len dapp).trans ?_;simp only [AV.len,As,List.length_take,List.length_map,List.length_replicate];congr 1;omega
   ·refine(congrArg (fun y=>AV.win y (.int .i64 0) (.int .i64 K.length)) dapp).trans ?_;simp only [AV.win,Int.toNat_natCast,Int.toNat_zero,List.drop_zero];rw [List.take_append_of_le_length (by simp;omega),List.take_take,Nat.min_self,←List.map_take,OH]
abbrev RtS:Nat→List AV→AV→Prop:=Ck Tryz.prog Cj
@[reducible] def Qp:Nat→Type
 |0=>Ab
 |1=>Au
 |2=>Ad
 |3=>AA
 |4=>AJ
 |5=>AI
 |6=>AL
 |7=>Bf
 |8=>CW
 |9=>Bm
 |10=>Ax
 |11=>zip
 |12=>B0
 |_+13=>Unit
@[reducible] def X1:Nat→List Ty
 |0=> [.s, .s, .b]
 |1=> [.s, .i .i64, .i .i64]
 |2=> [.s, .l .s, .l (.st 1)]
 |3=> [.s, .l (.st 2), .l (.i .i64), .l (.st 0)]
 |4=> [.s, .b]
 |5=> [.s, .l (.st 2), .l (.i .i64), .l (.st 0), .s, .b, .s, .b]
 |6=> [.l .s]
 |7=> [.i .i64, .l .s, .l .s]
 |8=> [.i .i64, .i .i64, .i .i64, .l .s, .l .s]
 |9=> [.i .i64, .i .i64, .i .i64, .i .i64, .i .i64, .l .s, .l .s]
 |10=> [.i .i64, .s, .s, .i .i64]
 |11=> [.s, .s, .b]
 |12=> [.s, .l (.st 10)]
 |_+13=> []
def Ln: ∀n,Qp n→AV
 |0,x=>Wn x
 |1,x=>XJ x
 |2,x=>Wx x
 |3,x=>wT x
 |4,x=>x8 x
 |5,x=>jG x
 |6,x=>zR x
 |7,x=>u7 x
 |8,x=>zvv x
 |9,x=>cC x
 |10,x=>zKL x
 |11,x=>zJ7 x
 |12,x=>zJd x
 |_+13,_=> .agg []
def kT: ∀n,Qp n→HL Qp (X1 n)
 |0,x=>(x.af,x.ay,x.bf,())
 |1,x=>(x.ab,x.bh,x.ao,())
 |2,x=>(x.ab,x.aq,x.ah,())
 |3,x=>(x.ab,x.ak,x.bj,x.au,())
 |4,x=>(x.al,x.bc,())
 |5,x=>(x.ae.ab,x.ae.ak,x.ae.bj,x.ae.au,x.ch.al,x.ch.bc,x.a8.al,x.a8.bc,())
 |6,x=>(x.ar,())
 |7,x=>(x.aj,x.bg.ar,x.bm.ar,())
 |8,x=>(x.ax,x.a7,x.fAct.aj,x.fAct.bg.ar,x.fAct.bm.ar,())
 |9,x=>(x.aj,x.br,x.fAct.ax,x.fAct.a7,x.fAct.fAct.aj,x.fAct.fAct.bg.ar,x.fAct.fAct.bm.ar,())
 |10,x=>(x.aj,x.af,x.ay,x.jq,())
 |11,x=>(x.af,x.ay,x.dh,())
 |12,x=>(x.a6,x.cc,())
 |_+13,_=>()
def uO: ∀n,HL Qp (X1 n)→Qp n
 |0,x=>⟨x.1,x.2.1,x.2.2.1⟩
 |1,x=>⟨x.1,x.2.1,x.2.2.1⟩
 |2,x=>⟨x.1,x.2.1,x.2.2.1⟩
 |3,x=>⟨x.1,x.2.1,x.2.2.1,x.2.2.2.1⟩
 |4,x=>⟨x.1,x.2.1⟩
 |5,x=>⟨⟨x.1,x.2.1,x.2.2.1,x.2.2.2.1⟩,⟨x.2.2.2.2.1,x.2.2.2.2.2.1⟩,⟨x.2.2.2.2.2.2.1,x.2.2.2.2.2.2.2.1⟩⟩
 |6,x=>⟨x.1⟩
 |7,x=>⟨x.1,⟨x.2.1⟩,⟨x.2.2.1⟩⟩
 |8,x=>⟨x.1,x.2.1,⟨x.2.2.1,⟨x.2.2.2.1⟩,⟨x.2.2.2.2.1⟩⟩⟩
 |9,x=>⟨x.1,x.2.1,⟨x.2.2.1,x.2.2.2.1,⟨x.2.2.2.2.1,⟨x.2.2.2.2.2.1⟩,⟨x.2.2.2.2.2.2.1⟩⟩⟩⟩
 |10,x=>⟨x.1,x.2.1,x.2.2.1,x.2.2.2.1⟩
 |11,x=>⟨x.1,x.2.1,x.2.2.1⟩
 |12,x=>⟨x.1,x.2.1⟩
 |_+13,_=>()
theorem zJy: ∀n x,Ln n x= .agg (HT Ln (X1 n) (kT n x))
 |0,_=>rfl
 |1,_=>rfl
 |2,_=>rfl
 |3,_=>rfl
 |4,_=>rfl
 |5,_=>rfl
 |6,_=>rfl
 |7,_=>rfl
 |8,_=>rfl
 |9,_=>rfl
 |10,_=>rfl
 |11,_=>rfl
 |12,_=>rfl
 |_+13,_=>rfl
theorem zHA: ∀n h,kT n (uO n h)=h
 |0,_=>rfl
 |1,_=>rfl
 |2,_=>rfl
 |3,_=>rfl
 |4,_=>rfl
 |5,_=>rfl
 |6,_=>rfl
 |7,_=>rfl
 |8,_=>rfl
 |9,_=>rfl
 |10,_=>rfl
 |11,_=>rfl
 |12,_=>rfl
 |_+13,_=>rfl
@[reducible] def tab:IL:=⟨RtS,Qp,Ln,X1,kT,uO,zJy,zHA⟩
abbrev FS:=FN tab
noncomputable def iV (tb:List FS) (hs:List JM) (o:Option Tr) (ps:List PT) (r:RT) (xs:HP tab.car ps) (hp:HV tab ps xs):Option (G1 tab.car r):=match o with
 |some t=>Cq tb 100000 (Qc r) t hs (Xx ps xs hp) [] []
 |none=>none
theorem zT {f:Nat} {ps:List PT} {r:RT} {φ:HP tab.car ps→Option (G1 tab.car r)} (tb:List FS) (hs:List JM) (h: ∀xs hp,iV tb hs (Uq Tryz.prog Cj f) ps r xs hp=φ xs) (hk: ∀xs y,XZ Tryz.prog Cj f (FR tab ps xs) (F2 tab r y)=true) (xs:HP tab.car ps) (y:G1 tab.car r) (hp:HV tab ps xs) (e:φ xs=some y):tab.Rt f (FR tab ps xs) (F2 tab r y):=by
 rw [←h xs hp]at e;unfold iV at e;split at e
 ·rename_i t ht;refine FQ ht (hk xs y) ?_;unfold Den;rw [←xX ps xs hp];exact EM tb 100000 (fa:= []) (fun _ h=>nomatch h) (fun _ h=>nomatch h) (fun v hv=>iZ r hv) .nil e
 ·cases e
noncomputable def Ak (f:Nat) (ps:List PT) (r:RT) (φ:HP tab.car ps→Option (G1 tab.car r)) (tb:List FS) (hs:List JM) (h: ∀xs hp,iV tb hs (Uq Tryz.prog Cj f) ps r xs hp=φ xs:=by intro _ _;kernel_rfl) (hk: ∀xs y,XZ Tryz.prog Cj f (FR tab ps xs) (F2 tab r y)=true:=by intro _ _;kernel_rfl):FS:=
 ⟨f,ps,r,φ,fun xs y hp e=>zT tb hs h hk xs y hp e,false,fun h=>by cases h⟩
noncomputable def JX (d:FS) (h: ∀y,jI d.f (F2 tab d.r y)=true):FS:=
 ⟨d.f,d.ps,d.r,d.φ,d.ok,true,fun _ xs y hx e=>zCL (d.ok xs y hx e) (h y)⟩
noncomputable def DF (f:Nat) (ps:List PT) (r:RT) (φ:HP tab.car ps→Option (G1 tab.car r)) (ok: ∀xs y,HV tab ps xs→φ xs=some y→tab.Rt f (FR tab ps xs) (F2 tab r y)):FS:=⟨f,ps,r,φ,ok,false,fun h=>by cases h⟩
end Go.Proofs.YtfdfahjmonlbiaaGreatDoor
end
section
namespace Go.Proofs.YtfdfahjmonlbiaaGreatDoor
open Go.RowKit
theorem DE.rd {P:Program} {w:World} {ts:List TypeId} {ms:List PM} {lo:List Bool} {vs:List Value} {xs:List AV} {rf lf hs:List Nat} (h:DE P w ts ms lo vs xs rf lf hs):lo= []→(∀m∈ms,m= .ro)→Rd w vs xs rf∧hs= []:=by
 induction h with
 |nil=>intro _ _;exact⟨.nil,rfl⟩
 |lent h1 _ _ _ _=>intro Cc;subst Cc;cases h1
 | @cons t ts ms lo v vs x xs f h rf lf hs A7 _ ih=>
  intro Cc EF;subst Cc;obtain⟨h1,rfl⟩:=ih rfl fun m hm=>EF m (List.mem_of_mem_tail hm);have Hi:ms.headD .ro= .ro:=by
   cases ms with
   |nil=>rfl
   |cons m ms=>exact EF m (by simp)
  rw [Hi]at A7;obtain⟨h2,h3⟩:Rd w [v] [x] f∧h= []:=A7;subst h3;exact⟨by simpa using h2.app h1,rfl⟩
 |free h1 _ ih=>intro Cc EF;subst Cc;obtain⟨h2,rfl⟩:=ih rfl fun m hm=>EF m (List.mem_of_mem_tail hm);exact⟨by simpa using h1.app h2,rfl⟩
theorem DU.j2 {P:Program} {w:World}: ∀{ts:List TypeId} {ms:List PM} {vs:List Value},vs.length=ts.length→(∀m∈ms,m= .ro)→DU P w ts ms vs [] [] []
 | [],_,vs,_,_=> .nil
 |t::ts,ms, [],h,_=>by simp at h
 |t::ts,ms,v::vs,h,EF=>by
  refine .ro ?_ (DU.j2 (by simpa using h) fun m hm=>EF m (List.mem_of_mem_tail hm));cases ms with
  |nil=>rfl
  |cons m ms=>exact EF m (by simp)
def kR (P:Program) (sg:BT) (f np:Nat) (r:AV):Bool:=
 match P.funcs[f]?,sg f with
 |some fn,some s=>fn.body.isSome&& !(fn.name== "runtime.NumGoroutine")&&Nw P fn s r&&s.cr.all (fun m=>match m with| .ro=>true|_=>false)&&fn.params.size==np&&fn.nfree==0&&(s.ft.isEmpty&&s.lo.isEmpty)&&(match fn.resultTypes.toList with| [t]=> !GV P t s.res|_=>false)
 |_,_=>false
theorem vK {f:Nat} {xs:List AV} {r:AV} (hk:kR Tryz.prog Cj f xs.length r=true) (hc: ∀(w:World) (vs:List Value) (rf:List Nat),FL.K w→Rd w vs xs rf→Calls Tryz.prog f vs.toArray w fun e w'=>Mod [] w w'∧ ∃v f1,e= .returned v∧Rd w' [v] [r] f1∧ ∀b∈f1,b∈rf∨w.heap.size≤b):Ck Tryz.prog Cj f xs r:=by
 unfold kR at hk;split at hk
 ·rename_i fn s hf hs;simp only [Ae,Bool.not_eq_true',beq_iff_eq,AR]at hk;obtain⟨⟨⟨⟨⟨⟨⟨h1,h2⟩,h3⟩,h4⟩,h5⟩,h6⟩,Ek⟩,h7⟩:=hk;obtain⟨Ek,Cc⟩:s.ft= []∧s.lo= []:=by simpa using Ek
  have Hi: ∀m∈s.cr,m= .ro:=fun m hm=>by
   have:=h4 m hm;split at this
   ·rfl
   ·cases this
  unfold Ck;rw [if_pos (SG f s hs)];refine⟨s,hs,fn,hf,h1,h2,h3,by omega,by simp [Ek],fun w vs rf lf Bb Ay hd _ Ce Ed=> ?_⟩;obtain⟨hr,rfl⟩:=Ay.rd Cc Hi;refine(hc w vs rf Ed.2.1 hr).mono ?_;rintro e w' ⟨hm,v,f1,rfl,hv,hb⟩;refine⟨v,rfl,⟨⟨r, [],f1, [], [], [],rfl, ?_,DU.j2 ?_ Hi,by simp,by simp,fun b BX=>⟨by simp, ?_⟩⟩,hm⟩⟩
  ·unfold Ks;split at h7
   ·rename_i t ht;rw [ht];show ES Tryz.prog w' t s.res v r f1 [];unfold ES;rw [if_neg (by rw [Bool.not_eq_true];simpa using h7)];exact⟨hv,rfl⟩
   ·cases h7
  ·rw [hr.len];simp [Ek];omega
  ·rcases hb b (by simpa using BX)with h|h
   ·exact .inl h
   ·exact .inr (.inr h)
 ·cases hk
theorem cX {f:Nat} {xs:List AV} {r:AV} (hk:kR Tryz.prog Cj f xs.length r=true) (hc: ∀(w:World) (vs:List Value) (rf:List Nat),Rd w vs xs rf→Calls Tryz.prog f vs.toArray w fun e w'=>Mod [] w w'∧ ∃v f1,e= .returned v∧Rd w' [v] [r] f1∧ ∀b∈f1,b∈rf∨w.heap.size≤b):Ck Tryz.prog Cj f xs r:=
 vK hk fun w vs rf _ hr=>hc w vs rf hr
theorem L3 {w:World} {s:List UInt8} {vs:List Value} {xs:List AV} {f:List Nat} (h:Rd w vs (.str s::xs) f): ∃(b:ByteArray) (us:List Value),vs= .string b::us∧b.data.toList=s∧b.size≤9223372036854775807∧Rd w us xs f:=by
 cases h with
 |str a h=>exact⟨_,_,rfl,rfl,a,h⟩
theorem Wz {w:World} {k:IntKind} {n:Int} {vs:List Value} {xs:List AV} {f:List Nat} (h:Rd w vs (.int k n::xs) f): ∃us:List Value,vs= .int k n::us∧ET k n∧Rd w us xs f:=by
 cases h with
 |int a h=>exact⟨_,rfl,a,h⟩
theorem LW {w:World} {vs:List Value} {f:List Nat} (h:Rd w vs [] f):vs= []∧f= []:=by cases h;exact⟨rfl,rfl⟩
end Go.Proofs.YtfdfahjmonlbiaaGreatDoor
end
section
namespace Go.Proofs
open Go.Shelf
def Tryz.fj:Go.Shelf.Ren:=⟨fun|156=>179|165=>229|166=>230|169=>231|240=>260|241=>261|276=>284|277=>285|n=>n,fun|31=>57|9=>9|3=>3|4=>4|0=>0|20=>20|72=>263|76=>267|70=>261|37=>182|75=>266|127=>286|164=>297|5=>5|80=>269|n=>n,fun|n=>n⟩
theorem Tryz.jm:Go.Proofs.Lays.n156 Tryz.prog Tryz.fj:={
 mixed:=by kernel_rfl
 f156:=Tryz.func179.trans (congrArg some (by kernel_rfl))
 f165:=Tryz.func229.trans (congrArg some (by kernel_rfl))
 f166:=Tryz.func230.trans (congrArg some (by kernel_rfl))
 f169:=Tryz.func231.trans (congrArg some (by kernel_rfl))
 f240:=Tryz.func260.trans (congrArg some (by kernel_rfl))
 f241:=Tryz.func261.trans (congrArg some (by kernel_rfl))
 f276:=Tryz.func284.trans (congrArg some (by kernel_rfl))
 f277:=Tryz.func285.trans (congrArg some (by kernel_rfl))
 t0:=Tryz.underlying0
 a0:=Tryz.isAgg0
 z0:=Tryz.sizeOf0
 v0:=Tryz.zeroValue0
 t3:=Tryz.underlying3
 a3:=Tryz.isAgg3
 z3:=Tryz.sizeOf3
 v3:=Tryz.zeroValue3
 t4:=Tryz.underlying4
 a4:=Tryz.isAgg4
 z4:=Tryz.sizeOf4
 v4:=Tryz.zeroValue4
 t9:=Tryz.underlying9
 a9:=Tryz.isAgg9
 z9:=Tryz.sizeOf9
 v9:=Tryz.zeroValue9
 t20:=Tryz.underlying20
 a20:=Tryz.isAgg20
 z20:=Tryz.sizeOf20
 v20:=Tryz.zeroValue20
 t31:=Tryz.underlying57
 a31:=Tryz.isAgg57
 z31:=Tryz.sizeOf57
 v31:=Tryz.zeroValue57
 t37:=Tryz.underlying182
 a37:=Tryz.isAgg182
 z37:=Tryz.sizeOf182
 v37:=Tryz.zeroValue182
 t70:=Tryz.underlying261
 a70:=Tryz.isAgg261
 z70:=Tryz.sizeOf261
 v70:=Tryz.zeroValue261
 t72:=Tryz.underlying263
 a72:=Tryz.isAgg263
 z72:=Tryz.sizeOf263
 v72:=Tryz.zeroValue263
 t75:=Tryz.underlying266
 a75:=Tryz.isAgg266
 z75:=Tryz.sizeOf266
 v75:=Tryz.zeroValue266
 t76:=Tryz.underlying267
 a76:=Tryz.isAgg267
 z76:=Tryz.sizeOf267
 v76:=Tryz.zeroValue267
 t127:=Tryz.underlying286
 a127:=Tryz.isAgg286
 z127:=Tryz.sizeOf286
 v127:=Tryz.zeroValue286
 t164:=Tryz.underlying297
 a164:=Tryz.isAgg297
 z164:=Tryz.sizeOf297
 v164:=Tryz.zeroValue297}
theorem Tryz.dr:Builder.Extra Tryz.prog Tryz.fj:={
 sizeBuilder:=by kernel_rfl
 liesBuilder:=by kernel_rfl
 t5:=Tryz.underlying5
 a5:=Tryz.isAgg5
 z5:=Tryz.sizeOf5
 v5:=Tryz.zeroValue5
 infoByte:=by kernel_rfl
 cellsByte:=by kernel_rfl
 sizeByte:=by kernel_rfl
 neB5:=by decide}
open Go.RowKit in
theorem Tryz.strings_Join_none (a:Option Addr) (c:Nat) (sep:ByteArray) (w:World):
  Calls Tryz.prog 179 #[.slice a 0 c, .string sep] w fun e w'=>e= .returned (.string ⟨#[]⟩)∧w'=w:=Any.strings_Join_none Tryz.jm Tryz.dr a c sep w
open Go.RowKit in
theorem Tryz.strings_Join (bk o c:Nat) (xs:List ByteArray) (sep:ByteArray) (w:World) (NV: ∀(j:Nat) x,xs[j]?=some x→w.cell? ⟨bk,o+j,none⟩=some (.string x)) (PX:bk<w.heap.size) (hN:xs.length≤140737488355328) (Jr:xs.length≤c) (hlen:(Lib.join (xs.map (·.data.toList)) sep.data.toList).length≤140737488355328):
  Calls Tryz.prog 179 #[.slice (some ⟨bk,o,none⟩) xs.length c, .string sep] w fun e w'=>e= .returned (.string ⟨(Lib.join (xs.map (·.data.toList)) sep.data.toList).toArray⟩)∧Below w.heap.size w w':=Any.strings_Join Tryz.jm Tryz.dr bk o c xs sep w NV PX hN Jr hlen
def Tryz.l4:Go.Shelf.Ren:=⟨fun|137=>212|217=>248|266=>270|n=>n,fun|9=>9|5=>5|3=>3|n=>n,fun|n=>n⟩
def Tryz.l6:Go.Shelf.Ren:=⟨fun|172=>291|244=>301|245=>302|247=>310|279=>311|280=>312|281=>313|282=>314|287=>320|316=>321|171=>255|205=>322|321=>325|322=>326|243=>274|246=>292|283=>303|284=>304|285=>305|286=>306|129=>316|317=>315|318=>317|319=>318|320=>319|337=>323|338=>324|n=>n,fun|9=>9|3=>3|75=>266|76=>267|4=>4|5=>5|167=>317|37=>182|0=>0|85=>318|2=>2|168=>320|53=>308|175=>331|46=>302|210=>334|127=>286|145=>340|143=>338|21=>21|171=>307|173=>311|212=>324|51=>314|20=>20|213=>325|232=>341|233=>342|80=>269|n=>n,fun|15=>4|16=>5|17=>1|18=>6|19=>7|n=>n⟩
def Tryz.la:Go.Shelf.Ren:=⟨fun|246=>292|283=>303|284=>304|285=>305|286=>306|129=>316|317=>315|318=>317|319=>318|320=>319|337=>323|338=>324|n=>n,fun|2=>2|3=>3|9=>9|4=>4|171=>307|0=>0|53=>308|37=>182|5=>5|173=>311|212=>324|51=>314|20=>20|213=>325|46=>302|232=>341|233=>342|n=>n,fun|17=>1|18=>6|19=>7|n=>n⟩
def Tryz.lr:Go.Shelf.Ren:=⟨fun|243=>274|246=>292|283=>303|284=>304|285=>305|286=>306|129=>316|317=>315|318=>317|319=>318|320=>319|337=>323|338=>324|n=>n,fun|3=>3|9=>9|2=>2|4=>4|171=>307|0=>0|53=>308|37=>182|5=>5|173=>311|212=>324|51=>314|20=>20|213=>325|46=>302|232=>341|233=>342|n=>n,fun|17=>1|18=>6|19=>7|n=>n⟩
def Tryz.gv:Go.Shelf.Ren:=⟨fun|171=>255|243=>274|246=>292|283=>303|284=>304|285=>305|286=>306|129=>316|317=>315|318=>317|319=>318|320=>319|337=>323|338=>324|n=>n,fun|3=>3|9=>9|2=>2|4=>4|171=>307|0=>0|53=>308|37=>182|5=>5|173=>311|212=>324|51=>314|20=>20|213=>325|46=>302|232=>341|233=>342|n=>n,fun|17=>1|18=>6|19=>7|n=>n⟩
theorem Tryz.jz:Go.Proofs.LaysM.n171 Tryz.prog Tryz.gv:={
 mixed:=by kernel_rfl
 f129:=Tryz.func316.trans (congrArg some (by kernel_rfl))
 f171:=Tryz.func255.trans (congrArg some (by kernel_rfl))
 f243:=Tryz.func274.trans (congrArg some (by kernel_rfl))
 f246:=Tryz.func292.trans (congrArg some (by kernel_rfl))
 f283:=Tryz.func303.trans (congrArg some (by kernel_rfl))
 f284:=Tryz.func304.trans (congrArg some (by kernel_rfl))
 f285:=Tryz.func305.trans (congrArg some (by kernel_rfl))
 f286:=Tryz.func306.trans (congrArg some (by kernel_rfl))
 f317:=Tryz.func315.trans (congrArg some (by kernel_rfl))
 f318:=Tryz.func317.trans (congrArg some (by kernel_rfl))
 f319:=Tryz.func318.trans (congrArg some (by kernel_rfl))
 f320:=Tryz.func319.trans (congrArg some (by kernel_rfl))
 f337:=Tryz.func323.trans (congrArg some (by kernel_rfl))
 f338:=Tryz.func324.trans (congrArg some (by kernel_rfl))
 t0:=Tryz.underlying0
 a0:=Tryz.isAgg0
 z0:=Tryz.sizeOf0
 v0:=Tryz.zeroValue0
 t2:=Tryz.underlying2
 a2:=Tryz.isAgg2
 z2:=Tryz.sizeOf2
 v2:=Tryz.zeroValue2
 t3:=Tryz.underlying3
 a3:=Tryz.isAgg3
 z3:=Tryz.sizeOf3
 v3:=Tryz.zeroValue3
 t4:=Tryz.underlying4
 a4:=Tryz.isAgg4
 z4:=Tryz.sizeOf4
 v4:=Tryz.zeroValue4
 t5:=Tryz.underlying5
 a5:=Tryz.isAgg5
 z5:=Tryz.sizeOf5
 v5:=Tryz.zeroValue5
 t9:=Tryz.underlying9
 a9:=Tryz.isAgg9
 z9:=Tryz.sizeOf9
 v9:=Tryz.zeroValue9
 t20:=Tryz.underlying20
 a20:=Tryz.isAgg20
 z20:=Tryz.sizeOf20
 v20:=Tryz.zeroValue20
 t37:=Tryz.underlying182
 a37:=Tryz.isAgg182
 z37:=Tryz.sizeOf182
 v37:=Tryz.zeroValue182
 t46:=Tryz.underlying302
 a46:=Tryz.isAgg302
 z46:=Tryz.sizeOf302
 v46:=Tryz.zeroValue302
 t51:=Tryz.underlying314
 a51:=Tryz.isAgg314
 z51:=Tryz.sizeOf314
 v51:=Tryz.zeroValue314
 t53:=Tryz.underlying308
 a53:=Tryz.isAgg308
 z53:=Tryz.sizeOf308
 v53:=Tryz.zeroValue308
 t171:=Tryz.underlying307
 a171:=Tryz.isAgg307
 z171:=Tryz.sizeOf307
 v171:=Tryz.zeroValue307
 t173:=Tryz.underlying311
 a173:=Tryz.isAgg311
 z173:=Tryz.sizeOf311
 v173:=Tryz.zeroValue311
 t212:=Tryz.underlying324
 a212:=Tryz.isAgg324
 z212:=Tryz.sizeOf324
 v212:=Tryz.zeroValue324
 t213:=Tryz.underlying325
 a213:=Tryz.isAgg325
 z213:=Tryz.sizeOf325
 t232:=Tryz.underlying341
 a232:=Tryz.isAgg341
 z232:=Tryz.sizeOf341
 v232:=Tryz.zeroValue341
 t233:=Tryz.underlying342
 a233:=Tryz.isAgg342
 z233:=Tryz.sizeOf342
 v233:=Tryz.zeroValue342
 g17:=by kernel_rfl
 g18:=by kernel_rfl
 g19:=by kernel_rfl
 i0:=by kernel_rfl
 i2:=by kernel_rfl
 i3:=by kernel_rfl
 i4:=by kernel_rfl
 i5:=by kernel_rfl
 i9:=by kernel_rfl
 i20:=by kernel_rfl
 i37:=by kernel_rfl
 i46:=by kernel_rfl
 i51:=by kernel_rfl
 i53:=by kernel_rfl
 i171:=by kernel_rfl
 i173:=by kernel_rfl
 i212:=by kernel_rfl
 i232:=by kernel_rfl
 i233:=by kernel_rfl
 m17:=by kernel_rfl
 m18:=by kernel_rfl
 m19:=by kernel_rfl}
open Go.RowKit Go.Sort Go.Lib in
theorem Tryz.strconv_Itoa (n:Int) (h0: -9223372036854775808≤n) (h1:n≤9223372036854775807) (w:World) (iD:Lib.TabIs Tryz.prog w "internal/strconv.uint64pow10" .u64 Lib.pow10Tab):
  Calls Tryz.prog 255 #[.int .i64 n] w fun e w'=>e= .returned (.string ⟨(Lib.itoa n).toArray⟩)∧ ∃k os,w'=grow (w.drewN k) os:=Any.strconv_Itoa Tryz.jz n h0 h1 w iD
def Tryz.ia:Go.Shelf.Ren:=⟨fun|172=>291|244=>301|245=>302|247=>310|279=>311|280=>312|281=>313|282=>314|287=>320|316=>321|171=>255|205=>322|321=>325|322=>326|243=>274|246=>292|283=>303|284=>304|285=>305|286=>306|129=>316|317=>315|318=>317|319=>318|320=>319|337=>323|338=>324|n=>n,fun|9=>9|3=>3|75=>266|76=>267|4=>4|5=>5|167=>317|37=>182|0=>0|85=>318|2=>2|168=>320|53=>308|175=>331|46=>302|210=>334|127=>286|145=>340|143=>338|21=>21|171=>307|173=>311|212=>324|51=>314|20=>20|213=>325|232=>341|233=>342|80=>269|n=>n,fun|15=>4|16=>5|17=>1|18=>6|19=>7|n=>n⟩
theorem Tryz.gh:Go.Proofs.LaysC.n172 Tryz.prog Tryz.ia:={
 mixed:=by kernel_rfl
 f129:=Tryz.func316.trans (congrArg some (by kernel_rfl))
 f171:=Tryz.func255.trans (congrArg some (by kernel_rfl))
 f172:=Tryz.func291.trans (congrArg some (by kernel_rfl))
 f205:=Tryz.func322.trans (congrArg some (by kernel_rfl))
 f243:=Tryz.func274.trans (congrArg some (by kernel_rfl))
 f244:=Tryz.func301.trans (congrArg some (by kernel_rfl))
 f245:=Tryz.func302.trans (congrArg some (by kernel_rfl))
 f246:=Tryz.func292.trans (congrArg some (by kernel_rfl))
 f247:=Tryz.func310.trans (congrArg some (by kernel_rfl))
 f279:=Tryz.func311.trans (congrArg some (by kernel_rfl))
 f280:=Tryz.func312.trans (congrArg some (by kernel_rfl))
 f281:=Tryz.func313.trans (congrArg some (by kernel_rfl))
 f282:=Tryz.func314.trans (congrArg some (by kernel_rfl))
 f283:=Tryz.func303.trans (congrArg some (by kernel_rfl))
 f284:=Tryz.func304.trans (congrArg some (by kernel_rfl))
 f285:=Tryz.func305.trans (congrArg some (by kernel_rfl))
 f286:=Tryz.func306.trans (congrArg some (by kernel_rfl))
 f287:=Tryz.func320.trans (congrArg some (by kernel_rfl))
 f316:=Tryz.func321.trans (congrArg some (by kernel_rfl))
 f317:=Tryz.func315.trans (congrArg some (by kernel_rfl))
 f318:=Tryz.func317.trans (congrArg some (by kernel_rfl))
 f319:=Tryz.func318.trans (congrArg some (by kernel_rfl))
 f320:=Tryz.func319.trans (congrArg some (by kernel_rfl))
 f321:=Tryz.func325.trans (congrArg some (by kernel_rfl))
 f322:=Tryz.func326.trans (congrArg some (by kernel_rfl))
 f337:=Tryz.func323.trans (congrArg some (by kernel_rfl))
 f338:=Tryz.func324.trans (congrArg some (by kernel_rfl))
 t0:=Tryz.underlying0
 a0:=Tryz.isAgg0
 z0:=Tryz.sizeOf0
 v0:=Tryz.zeroValue0
 t2:=Tryz.underlying2
 a2:=Tryz.isAgg2
 z2:=Tryz.sizeOf2
 v2:=Tryz.zeroValue2
 t3:=Tryz.underlying3
 a3:=Tryz.isAgg3
 z3:=Tryz.sizeOf3
 v3:=Tryz.zeroValue3
 t4:=Tryz.underlying4
 a4:=Tryz.isAgg4
 z4:=Tryz.sizeOf4
 v4:=Tryz.zeroValue4
 t5:=Tryz.underlying5
 a5:=Tryz.isAgg5
 z5:=Tryz.sizeOf5
 v5:=Tryz.zeroValue5
 t9:=Tryz.underlying9
 a9:=Tryz.isAgg9
 z9:=Tryz.sizeOf9
 v9:=Tryz.zeroValue9
 t20:=Tryz.underlying20
 a20:=Tryz.isAgg20
 z20:=Tryz.sizeOf20
 v20:=Tryz.zeroValue20
 t21:=Tryz.underlying21
 a21:=Tryz.isAgg21
 z21:=Tryz.sizeOf21
 v21:=Tryz.zeroValue21
 t37:=Tryz.underlying182
 a37:=Tryz.isAgg182
 z37:=Tryz.sizeOf182
 v37:=Tryz.zeroValue182
 t46:=Tryz.underlying302
 a46:=Tryz.isAgg302
 z46:=Tryz.sizeOf302
 v46:=Tryz.zeroValue302
 t51:=Tryz.underlying314
 a51:=Tryz.isAgg314
 z51:=Tryz.sizeOf314
 v51:=Tryz.zeroValue314
 t53:=Tryz.underlying308
 a53:=Tryz.isAgg308
 z53:=Tryz.sizeOf308
 v53:=Tryz.zeroValue308
 t75:=Tryz.underlying266
 a75:=Tryz.isAgg266
 z75:=Tryz.sizeOf266
 v75:=Tryz.zeroValue266
 t76:=Tryz.underlying267
 a76:=Tryz.isAgg267
 z76:=Tryz.sizeOf267
 v76:=Tryz.zeroValue267
 t85:=Tryz.underlying318
 a85:=Tryz.isAgg318
 z85:=Tryz.sizeOf318
 v85:=Tryz.zeroValue318
 t127:=Tryz.underlying286
 a127:=Tryz.isAgg286
 z127:=Tryz.sizeOf286
 v127:=Tryz.zeroValue286
 t143:=Tryz.underlying338
 a143:=Tryz.isAgg338
 z143:=Tryz.sizeOf338
 v143:=Tryz.zeroValue338
 t145:=Tryz.underlying340
 a145:=Tryz.isAgg340
 z145:=Tryz.sizeOf340
 v145:=Tryz.zeroValue340
 t167:=Tryz.underlying317
 a167:=Tryz.isAgg317
 z167:=Tryz.sizeOf317
 v167:=Tryz.zeroValue317
 t168:=Tryz.underlying320
 a168:=Tryz.isAgg320
 z168:=Tryz.sizeOf320
 v168:=Tryz.zeroValue320
 t171:=Tryz.underlying307
 a171:=Tryz.isAgg307
 z171:=Tryz.sizeOf307
 v171:=Tryz.zeroValue307
 t173:=Tryz.underlying311
 a173:=Tryz.isAgg311
 z173:=Tryz.sizeOf311
 v173:=Tryz.zeroValue311
 t175:=Tryz.underlying331
 a175:=Tryz.isAgg331
 z175:=Tryz.sizeOf331
 v175:=Tryz.zeroValue331
 t210:=Tryz.underlying334
 a210:=Tryz.isAgg334
 z210:=Tryz.sizeOf334
 v210:=Tryz.zeroValue334
 t212:=Tryz.underlying324
 a212:=Tryz.isAgg324
 z212:=Tryz.sizeOf324
 v212:=Tryz.zeroValue324
 t213:=Tryz.underlying325
 a213:=Tryz.isAgg325
 z213:=Tryz.sizeOf325
 t232:=Tryz.underlying341
 a232:=Tryz.isAgg341
 z232:=Tryz.sizeOf341
 v232:=Tryz.zeroValue341
 t233:=Tryz.underlying342
 a233:=Tryz.isAgg342
 z233:=Tryz.sizeOf342
 v233:=Tryz.zeroValue342
 g15:=by kernel_rfl
 g16:=by kernel_rfl
 g17:=by kernel_rfl
 g18:=by kernel_rfl
 g19:=by kernel_rfl
 t80:=Tryz.underlying269
 a80:=Tryz.isAgg269
 z80:=Tryz.sizeOf269
 v80:=Tryz.zeroValue269
 i0:=by kernel_rfl
 i2:=by kernel_rfl
 i3:=by kernel_rfl
 i4:=by kernel_rfl
 i5:=by kernel_rfl
 i9:=by kernel_rfl
 i20:=by kernel_rfl
 i21:=by kernel_rfl
 i37:=by kernel_rfl
 i46:=by kernel_rfl
 i51:=by kernel_rfl
 i53:=by kernel_rfl
 i75:=by kernel_rfl
 i76:=by kernel_rfl
 i80:=by kernel_rfl
 i85:=by kernel_rfl
 i127:=by kernel_rfl
 i143:=by kernel_rfl
 i145:=by kernel_rfl
 i167:=by kernel_rfl
 i168:=by kernel_rfl
 i171:=by kernel_rfl
 i173:=by kernel_rfl
 i175:=by kernel_rfl
 i210:=by kernel_rfl
 i212:=by kernel_rfl
 i232:=by kernel_rfl
 i233:=by kernel_rfl
 m15:=by kernel_rfl
 m16:=by kernel_rfl
 m17:=by kernel_rfl
 m18:=by kernel_rfl
 m19:=by kernel_rfl
 c0:=by kernel_rfl
 c2:=by kernel_rfl
 c3:=by kernel_rfl
 c4:=by kernel_rfl
 c5:=by kernel_rfl
 c9:=by kernel_rfl
 c20:=by kernel_rfl
 c21:=by kernel_rfl
 c37:=by kernel_rfl
 c46:=by kernel_rfl
 c51:=by kernel_rfl
 c53:=by kernel_rfl
 c75:=by kernel_rfl
 c76:=by kernel_rfl
 c80:=by kernel_rfl
 c85:=by kernel_rfl
 c127:=by kernel_rfl
 c143:=by kernel_rfl
 c145:=by kernel_rfl
 c167:=by kernel_rfl
 c168:=by kernel_rfl
 c171:=by kernel_rfl
 c173:=by kernel_rfl
 c175:=by kernel_rfl
 c210:=by kernel_rfl
 c212:=by kernel_rfl
 c213:=by kernel_rfl
 c232:=by kernel_rfl
 c233:=by kernel_rfl}
open Go.RowKit in
theorem Tryz.strconv_Atoi_ok (s:ByteArray) (Ec:s.size≤9223372036854775806) (v:Int) (h:Lib.atoiAll s.data.toList= .ok v) (w:World):
  Calls Tryz.prog 291 #[.string s] w fun e w'=>e= .returned (.tuple #[.int .i64 v, .nilIface])∧(w'=w∨ ∃t,w'=Lib.bytesWorld w 5 t):=Any.strconv_Atoi_ok Tryz.gh s Ec v h w
def Tryz.ig:Go.Shelf.Ren:=⟨fun|217=>248|266=>270|n=>n,fun|9=>9|5=>5|3=>3|n=>n,fun|n=>n⟩
theorem Tryz.lj:Go.Proofs.Lays.n217 Tryz.prog Tryz.ig:={
 mixed:=by kernel_rfl
 f217:=Tryz.func248.trans (congrArg some (by kernel_rfl))
 f266:=Tryz.func270.trans (congrArg some (by kernel_rfl))
 t3:=Tryz.underlying3
 a3:=Tryz.isAgg3
 z3:=Tryz.sizeOf3
 v3:=Tryz.zeroValue3
 t5:=Tryz.underlying5
 a5:=Tryz.isAgg5
 z5:=Tryz.sizeOf5
 v5:=Tryz.zeroValue5
 t9:=Tryz.underlying9
 a9:=Tryz.isAgg9
 z9:=Tryz.sizeOf9
 v9:=Tryz.zeroValue9}
open Go.RowKit Go.Lib in
theorem Tryz.stringslite_IndexByte (s:ByteArray) (c:Int) (w:World):
  Calls Tryz.prog 248 #[.string s, .int .u8 c] w fun e w'=>e= .returned (.int .i64 (Lib.indexByte s.data.toList c.toNat.toUInt8))∧w'=w:=Any.stringslite_IndexByte Tryz.lj s c w
def Tryz.ik:Go.Shelf.Ren:=⟨fun|219=>286|217=>248|225=>298|224=>299|267=>300|266=>270|314=>309|n=>n,fun|9=>9|3=>3|4=>4|5=>5|46=>302|146=>315|51=>314|n=>n,fun|1=>0|n=>n⟩
theorem Tryz.kz:Go.Proofs.Lays.n219 Tryz.prog Tryz.ik:={
 mixed:=by kernel_rfl
 f217:=Tryz.func248.trans (congrArg some (by kernel_rfl))
 f219:=Tryz.func286.trans (congrArg some (by kernel_rfl))
 f224:=Tryz.func299.trans (congrArg some (by kernel_rfl))
 f225:=Tryz.func298.trans (congrArg some (by kernel_rfl))
 f266:=Tryz.func270.trans (congrArg some (by kernel_rfl))
 f267:=Tryz.func300.trans (congrArg some (by kernel_rfl))
 f314:=Tryz.func309.trans (congrArg some (by kernel_rfl))
 t3:=Tryz.underlying3
 a3:=Tryz.isAgg3
 z3:=Tryz.sizeOf3
 v3:=Tryz.zeroValue3
 t4:=Tryz.underlying4
 a4:=Tryz.isAgg4
 z4:=Tryz.sizeOf4
 v4:=Tryz.zeroValue4
 t5:=Tryz.underlying5
 a5:=Tryz.isAgg5
 z5:=Tryz.sizeOf5
 v5:=Tryz.zeroValue5
 t9:=Tryz.underlying9
 a9:=Tryz.isAgg9
 z9:=Tryz.sizeOf9
 v9:=Tryz.zeroValue9
 t46:=Tryz.underlying302
 a46:=Tryz.isAgg302
 z46:=Tryz.sizeOf302
 v46:=Tryz.zeroValue302
 t51:=Tryz.underlying314
 a51:=Tryz.isAgg314
 z51:=Tryz.sizeOf314
 v51:=Tryz.zeroValue314
 t146:=Tryz.underlying315
 a146:=Tryz.isAgg315
 z146:=Tryz.sizeOf315
 v146:=Tryz.zeroValue315
 g1:=by kernel_rfl}
open Go.RowKit Go.Lib in
theorem Tryz.stringslite_Index_one (s:ByteArray) (c:UInt8) (w:World):
  Calls Tryz.prog 286 #[.string s, .string ⟨#[c]⟩] w fun e w'=>e= .returned (.int .i64 (Lib.indexByte s.data.toList c))∧w'=w:=Any.stringslite_Index_one Tryz.kz s c w
def Tryz.iq:Go.Shelf.Ren:=⟨fun|138=>282|195=>295|218=>297|143=>283|219=>286|217=>248|225=>298|224=>299|267=>300|266=>270|314=>309|n=>n,fun|9=>9|3=>3|4=>4|5=>5|0=>0|46=>302|146=>315|51=>314|n=>n,fun|1=>0|n=>n⟩
theorem Tryz.ln:Go.Proofs.Lays.n138 Tryz.prog Tryz.iq:={
 mixed:=by kernel_rfl
 f138:=Tryz.func282.trans (congrArg some (by kernel_rfl))
 f143:=Tryz.func283.trans (congrArg some (by kernel_rfl))
 f195:=Tryz.func295.trans (congrArg some (by kernel_rfl))
 f217:=Tryz.func248.trans (congrArg some (by kernel_rfl))
 f218:=Tryz.func297.trans (congrArg some (by kernel_rfl))
 f219:=Tryz.func286.trans (congrArg some (by kernel_rfl))
 f224:=Tryz.func299.trans (congrArg some (by kernel_rfl))
 f225:=Tryz.func298.trans (congrArg some (by kernel_rfl))
 f266:=Tryz.func270.trans (congrArg some (by kernel_rfl))
 f267:=Tryz.func300.trans (congrArg some (by kernel_rfl))
 f314:=Tryz.func309.trans (congrArg some (by kernel_rfl))
 t0:=Tryz.underlying0
 a0:=Tryz.isAgg0
 z0:=Tryz.sizeOf0
 v0:=Tryz.zeroValue0
 t3:=Tryz.underlying3
 a3:=Tryz.isAgg3
 z3:=Tryz.sizeOf3
 v3:=Tryz.zeroValue3
 t4:=Tryz.underlying4
 a4:=Tryz.isAgg4
 z4:=Tryz.sizeOf4
 v4:=Tryz.zeroValue4
 t5:=Tryz.underlying5
 a5:=Tryz.isAgg5
 z5:=Tryz.sizeOf5
 v5:=Tryz.zeroValue5
 t9:=Tryz.underlying9
 a9:=Tryz.isAgg9
 z9:=Tryz.sizeOf9
 v9:=Tryz.zeroValue9
 t46:=Tryz.underlying302
 a46:=Tryz.isAgg302
 z46:=Tryz.sizeOf302
 v46:=Tryz.zeroValue302
 t51:=Tryz.underlying314
 a51:=Tryz.isAgg314
 z51:=Tryz.sizeOf314
 v51:=Tryz.zeroValue314
 t146:=Tryz.underlying315
 a146:=Tryz.isAgg315
 z146:=Tryz.sizeOf315
 v146:=Tryz.zeroValue315
 g1:=by kernel_rfl}
open Go.RowKit Go.Lib in
theorem Tryz.strings_Count_one (s:ByteArray) (c:UInt8) (w:World):
  Calls Tryz.prog 282 #[.string s, .string ⟨#[c]⟩] w fun e w'=>e= .returned (.int .i64 (Lib.countByte s.data.toList c))∧w'=w:=Any.strings_Count_one Tryz.ln s c w
end Go.Proofs
end
section
namespace Go.Proofs.YtfdfahjmonlbiaaGreatDoor
open Go.RowKit
set_option maxRecDepth 100000
theorem oN: ∀(l:List UInt8) (c:UInt8), -1≤Lib.indexByte l c∧Lib.indexByte l c<l.length∨Lib.indexByte l c= -1
 | [],_=> .inr rfl
 |b::l,c=>by
  unfold Lib.indexByte;rcases oN l c with h|h
  ·split
   ·left;simp
   ·split
    ·exact .inr rfl
    ·left;rw [Ap];omega
  ·rw [h];split
   ·left;simp
   ·right;rfl
theorem rM {n:Int} (h1: -9223372036854775808≤n) (h2:n≤9223372036854775807):ET .i64 n:=A9 h1 h2
theorem zE {b:ByteArray} {c:UInt8} (h:b.data.toList= [c]):b=⟨#[c]⟩:=by
 cases b with
 |mk d=>cases d with
  |mk l=>simp at h;rw [h]
def X3 (s:List UInt8) (c:Int):Option Int:=some (Lib.indexByte s c.toNat.toUInt8)
theorem ziq (a0:List UInt8) (a1 r:Int) (h:X3 a0 a1=some r):Ck Tryz.prog Cj 248 [.str a0, .int .u8 a1] (.int .i64 r):=cX (by kernel_rfl) fun w vs rf hr=>by
 obtain⟨b,us,rfl,rfl,hb,hr⟩:=L3 hr;obtain⟨us1,rfl,_,hr⟩:=Wz hr;obtain⟨rfl,rfl⟩:=LW hr;refine(Tryz.stringslite_IndexByte b a1 w).mono ?_;rintro e w' ⟨rfl,rfl⟩;cases h;have hl:b.data.toList.length≤9223372036854775807:=by rw [Array.length_toList];exact hb
 exact⟨Mod.refl [] _,_, [],rfl, .int (by rcases oN b.data.toList a1.toNat.toUInt8 with h|h<;>exact rM (by omega) (by omega)) .nil,by simp⟩
def QE (s sub:List UInt8):Option Int:=match sub with| [c]=>some (Lib.indexByte s c)|_=>none
theorem zkh (a0 a1:List UInt8) (r:Int) (h:QE a0 a1=some r):Ck Tryz.prog Cj 286 [.str a0, .str a1] (.int .i64 r):=cX (by kernel_rfl) fun w vs rf hr=>by
 obtain⟨b,us,rfl,rfl,hb,hr⟩:=L3 hr;obtain⟨b1,us1,rfl,h1,_,hr⟩:=L3 hr;obtain⟨rfl,rfl⟩:=LW hr
 match a1,h,h1 with
 | [c],h,h1=>
  have:=zE h1;subst this;refine(Tryz.stringslite_Index_one b c w).mono ?_;rintro e w' ⟨rfl,rfl⟩;cases h;have hl:b.data.toList.length≤9223372036854775807:=by rw [Array.length_toList];exact hb
  exact⟨Mod.refl [] _,_, [],rfl, .int (by rcases oN b.data.toList c with h|h<;>exact rM (by omega) (by omega)) .nil,by simp⟩
 | [],h,_=>cases h
 |_::_::_,h,_=>cases h
def Y4 (s sub:List UInt8):Option Int:=match sub with| [c]=>some (Lib.countByte s c:Int)|_=>none
theorem zuo (a0 a1:List UInt8) (r:Int) (h:Y4 a0 a1=some r):Ck Tryz.prog Cj 282 [.str a0, .str a1] (.int .i64 r):=cX (by kernel_rfl) fun w vs rf hr=>by
 obtain⟨b,us,rfl,rfl,hb,hr⟩:=L3 hr;obtain⟨b1,us1,rfl,h1,_,hr⟩:=L3 hr;obtain⟨rfl,rfl⟩:=LW hr
 match a1,h,h1 with
 | [c],h,h1=>
  have:=zE h1;subst this;refine(Tryz.strings_Count_one b c w).mono ?_;rintro e w' ⟨rfl,rfl⟩;cases h;have hl:b.data.toList.length≤9223372036854775807:=by rw [Array.length_toList];exact hb
  have:Lib.countByte b.data.toList c≤b.data.toList.length:=List.count_le_length;exact⟨Mod.refl [] _,_, [],rfl, .int (rM (by omega) (by omega)) .nil,by simp⟩
 | [],h,_=>cases h
 |_::_::_,h,_=>cases h
def mN (_:List UInt8) (_:Int):Option (List (List UInt8)):=none
theorem zq2 (a0:List UInt8) (a1:Int) (r:List (List UInt8)) (h:mN a0 a1=some r):Ck Tryz.prog Cj 281 [.str a0, .int .i64 a1] (.sl (r.map GX)):=by cases h
noncomputable def ZT (xs:List (List UInt8)) (sep:List UInt8):Option (List UInt8):=AD (xs.length≤140737488355328∧(Lib.join xs sep).length≤140737488355328) (some (Lib.join xs sep))
theorem zrx {w:World}: ∀{cs:List Value} {xs:List (List UInt8)} {f:List Nat},Rd w cs (AP (xs.map GX)) f→ ∃bs:List ByteArray,cs=bs.map Value.string∧bs.map (·.data.toList)=xs
 |cs, [],f,h=>by obtain⟨rfl,_⟩:=LW (by simpa [AP]using h);exact⟨[],rfl,rfl⟩
 |cs,x::xs,f,h=>by
  have h':Rd w cs (.str x::AP (xs.map GX)) f:=by simpa [AP]using h
  obtain⟨b,us,rfl,rfl,_,h2⟩:=L3 h';obtain⟨bs,rfl,rfl⟩:=zrx h2;exact⟨b::bs,rfl,rfl⟩
theorem zvb (a0:List (List UInt8)) (a1 r:List UInt8) (h:ZT a0 a1=some r):Ck Tryz.prog Cj 179 [.sl (a0.map GX), .str a1] (.str r):=cX (by kernel_rfl) fun w vs rf hr=>by
 obtain⟨⟨GF,Fb⟩,h⟩:=Gw h;cases h;generalize hx:a0.map GX=ys at hr;cases hr with
 |ej hr=>
  obtain⟨b1,us1,rfl,rfl,_,hr⟩:=L3 hr;obtain⟨rfl,rfl⟩:=LW hr;have:a0= []:=by simpa using hx
  subst this;refine(Tryz.strings_Join_none _ _ b1 w).mono ?_;rintro e w' ⟨rfl,rfl⟩;exact⟨Mod.refl [] _,_, [],rfl, .str (by simp [ByteArray.size]) .nil,by simp⟩
 |fu hb h1 h2 h3 h4 h5 h6 G4 h7 hr=>
  rename_i bk o n c cs C t fz sz f1 vs f;obtain⟨b1,us1,rfl,rfl,_,hr⟩:=L3 hr;obtain⟨rfl,rfl⟩:=LW hr;subst hx;obtain⟨bs,rfl,rfl⟩:=zrx h7;have hn:n=bs.length:=by simpa using h3.symm
  subst hn;have PX:bk<w.heap.size:=FM hb;refine(Tryz.strings_Join bk o c bs b1 w (fun j x hx=> ?_) PX (by simpa using GF) h2.2 Fb).mono ?_
  ·have:=h6 j (.string x) (by simp [hx]);rw [EY hb];exact this
  ·rintro e w' ⟨rfl,eG⟩;exact⟨.eo eG (Nat.le_refl _),_, [],rfl, .str (by simp [ByteArray.size];omega) .nil,by simp⟩
theorem ZX {P:Program} (w:World) (dT sT ty elem:TypeId) (k:Nat) (g o dLen dCap:Nat) (a:Addr) (sLen sCap:Nat) (cur:Array Value) (t:TypeId) (cs:List Value)
  (hu:P.underlying dT=some (.slice elem)) (hs:(P.info? elem).map (·.size)=some k)
  (hg:w.heap[g]?=some (.cells cur t (0,0))) (hn:cs.length=Nat.min sLen dLen*k)
  (FH: ∀j v,cs[j]?=some v→w.cell? (a.add j)=some v) (N6:o+cs.length≤cur.size) (h1: ∀v∈cs,v.oneCell'=true):
  (Builtin.copy_ #[dT,sT] ty #[.slice (some ⟨g,o,none⟩) dLen dCap, .slice (some a) sLen sCap]).run P w=
   .ok (goInt (Nat.min sLen dLen)) (w.setRow g (cur.toList.take o++cs++cur.toList.drop (o+cs.length)).toArray):=by
 have hl:=run_loadCells_list (P:=P) w a cs FH;have A0:=run_storeCells_at P g o t cs 0 cur w hg (by simpa using N6) h1;cases hq:P.info? elem with
 |none=>simp [hq]at hs
 |some i=>
  have hi:i.size=k:=by simpa [hq]using hs
  rw [hn]at hl;simp [Builtin.copy_,run_underlying hu,Builtin.lenOf,Builtin.firstCells,sizeOf,typeInfo,hq,hi,hl,A0]
theorem oG {P:Program} (w:World) {ops:Array Oper} {rest:List Oper} {o:Oper} {a:Act} {Q:Exit→Act→World→Prop} (PZ:o.guard=none) (d s:Operand) (t t':TypeId)
  (ho:o.op= .call {callee:= .builtin .copy,args:= #[d,s],argTypes:= #[t,t']}) (v u:Value) (hd:a.eval d=v) (hs:a.eval s=u) {v':Value} {w':World}
  (hr:(Builtin.copy_ #[t,t'] o.type #[v,u]).run P w= .ok v' w') (h:wpList P ops Q rest (a.put o.dst v') w'):wpList P ops Q (o::rest) a w:=
 wpList_plain PZ fun _ hK=>by unfold Oper.wp execOp;simp only [ho,resolve,invoke,builtin,Sem.run_bind,Sem.run_pure,Result.andThen_ok,List.map_toArray,List.map_cons,List.map_nil,hd,hs,hr];exact hK _ _ h
theorem zur {P:Program} {ops:Array Oper} {o:Oper} {a:Act} {w:World} {K:Act→World→Prop} {Q:Exit→Act→World→Prop} {E:Prop}
  (hg:o.guard=none) (d x:Operand) (dT sT:TypeId) (AT:o.op=Op.call {callee:=Callee.builtin Builtin.copy,args:= #[d,x],argTypes:= #[dT,sT]})
  (v u:Value) (hd:a.eval d=v) (hx:a.eval x=u) {v':Value} {w':World} (hr:(Builtin.copy_ #[dT,sT] o.type #[v,u]).run P w= .ok v' w') (hK:K (a.put o.dst v') w'):
  if Region.wanted o (yielded ops a.tmps)=true then Oper.wp P o a w K Q else E:=by
 have hw:Region.wanted o (yielded ops a.tmps)=true:=by simp [Region.wanted,hg]
 rw [if_pos hw];unfold Oper.wp;simp [execOp,AT,resolve,invoke,builtin,hd,hx,hr,Result.andThen];exact hK
def G0 (w:World) (el:TypeId) (k:Nat) (g cap:Nat) (C:Array Value) (n:Nat) (cs:List Value):Prop:=
 n≤cap∧cap≤maxLen∧w.heap[g]?=some (.cells C el (0,0))∧C.size=cap*k∧cs=C.toList.take (n*k)
def OO (w w':World) (el:TypeId) (k:Nat) (own:List Nat) (v:Value) (n:Nat) (cs:List Value):Prop:=
 ∃g cap C,v= .slice (some ⟨g,0,none⟩) n cap∧G0 w' el k g cap C n cs∧Mod own w w'∧(g∈own∨w.heap.size≤g)
def kF (P:Program) (f:Nat) (el:TypeId) (k:Nat):Prop:=
 ∀(w:World) (v:Value) (n i:Nat) (cs:List Value) (own:List Nat) (vb vc m:Nat) (VC:Array Value) (vs:List Value),cs.length=n*k→
  ((n=0∧ ∃q,v= .slice q 0 0)∨ ∃g cap C,v= .slice (some ⟨g,0,none⟩) n cap∧G0 w el k g cap C n cs∧g∈own)→i≤n→G0 w el k vb vc VC m vs→(∀g∈own,vb≠g)→0<m→(n+m)*1000≤140737488355328→
  (∀u∈vs,u.oneCell'=true)→(∀u∈cs,u.oneCell'=true)→
  Calls P f #[v, .int .i64 i, .slice (some ⟨vb,0,none⟩) m vc] w fun e w'=> ∃u,e= .returned u∧OO w w' el k own u (n+m) (cs.take (i*k)++vs++cs.drop (i*k))
theorem G0.cell {w:World} {el:TypeId} {k g cap:Nat} {C:Array Value} {n:Nat} {cs:List Value} (h:G0 w el k g cap C n cs) (off j:Nat) (v:Value) (hj:(cs.drop off)[j]?=some v):w.cell? ((⟨g,off,none⟩:Addr).add j)=some v:=by
 obtain⟨_,_,h3,_,h5⟩:=h;rw [Addr.add_lit,EY h3];rw [List.getElem?_drop,h5,List.getElem?_take]at hj;split at hj
 ·simpa using hj
 ·cases hj
theorem G0.len {w:World} {el:TypeId} {k g cap:Nat} {C:Array Value} {n:Nat} {cs:List Value} (h:G0 w el k g cap C n cs):cs.length=n*k:=by obtain⟨h1,_,_,h4,h5⟩:=h;have:=Nat.mul_le_mul_right k h1;rw [h5,List.length_take,Array.length_toList];omega
theorem zKb {α:Type} (cur cs vs:List α) (i m n:Nat) (hc:cs=cur.take n) (hi:i≤n) (hv:vs.length=m) (hn:n+m≤cur.length):
  let c1:=cur.take (i+m)++cs.drop i++cur.drop (i+m+(cs.drop i).length)
  (c1.take i++vs++c1.drop (i+vs.length)).take (n+m)=cs.take i++vs++cs.drop i:=by
 have AH:cs.length=n:=by rw [hc,List.length_take];omega
 have hd:(cs.drop i).length=n-i:=by rw [List.length_drop,AH]
 intro c1;have e1:c1.take i=cs.take i:=by show(cur.take (i+m)++cs.drop i++_).take i=_;rw [List.append_assoc,List.take_append_of_le_length (by rw [List.length_take];omega),List.take_take,hc,List.take_take];congr 1;omega
 have e2:c1.drop (i+vs.length)=cs.drop i++cur.drop (i+m+(cs.drop i).length):=by show(cur.take (i+m)++cs.drop i++_).drop _=_;rw [List.append_assoc,List.drop_append_of_le_length (by rw [List.length_take,hv];omega),List.drop_eq_nil_of_le (by rw [List.length_take,hv];omega),List.nil_append]
 rw [e1,e2];have l1:(cs.take i++vs++cs.drop i).length=n+m:=by simp only [As,List.length_take,hv,hd,AH];omega
 rw [←List.append_assoc,←l1,List.take_left]
theorem two {α:Type} (zs cs vs:List α) (i m n:Nat) (cur:List α) (eP:cur=cs.take i++zs) (AH:cs.length=n) (hi:i≤n) (hv:vs.length=m) (hz:n+m-i≤zs.length):
  let c1:=cur.take i++vs++cur.drop (i+vs.length)
  (c1.take (i+m)++cs.drop i++c1.drop (i+m+(cs.drop i).length)).take (n+m)=cs.take i++vs++cs.drop i:=by
 have ht:(cs.take i).length=i:=by rw [List.length_take];omega
 intro c1;have e1:c1=cs.take i++vs++cur.drop (i+vs.length):=by show cur.take i++vs++cur.drop (i+vs.length)=_;rw [eP];congr 2;rw [List.take_append_of_le_length (by omega),List.take_take,Nat.min_self]
 have e2:c1.take (i+m)=cs.take i++vs:=by
  have l2:(cs.take i++vs).length=i+m:=by rw [As,ht,hv]
  rw [e1,←l2,List.take_left]
 rw [e2];have l1:(cs.take i++vs++cs.drop i).length=n+m:=by simp only [As,ht,hv,List.length_drop,AH];omega
 rw [←l1,List.take_left]
theorem qJ (xs ys:List AV):AP (xs++ys)=AP xs++AP ys:=by simp [AP]
theorem zCg {K:Nat} {xs:List AV} (h: ∀y∈xs,y.cells.length=K) {i:Nat} (hi:i≤xs.length):AP (xs.take i)=(AP xs).take (i*K)∧AP (xs.drop i)=(AP xs).drop (i*K):=by
 have l1:(AP (xs.take i)).length=i*K:=by rw [Nn _ fun y hy=>h y (List.mem_of_mem_take hy),List.length_take,Nat.min_eq_left hi]
 have e:AP xs=AP (xs.take i)++AP (xs.drop i):=by rw [←qJ,List.take_append_drop]
 rw [e,←l1,List.take_left,List.drop_left];exact⟨rfl,rfl⟩
theorem CZ.mz {w:World} {el K:Nat} {v:Value} {x:AV} {top:List Nat} (h:CZ w el K v x top []): ∃xs cs,x= .sl xs∧0<K∧(∀y∈xs,y.cells.length=K)∧cs.length=xs.length*K∧Rd w cs (AP xs) []∧(∀u∈cs,u.oneCell'=true)∧
  ((xs= []∧top= []∧ ∃q,v= .slice q 0 0)∨ ∃g cap C,v= .slice (some ⟨g,0,none⟩) xs.length cap∧G0 w el K g cap C xs.length cs∧top= [g]):=by
 obtain⟨xs,rfl,h2,h3,⟨rfl,⟨a,hv⟩,rfl,_⟩|⟨g,cap,C,rfl,h6,h7,h8,h9,rfl,G3,F4⟩⟩:=h
 ·exact⟨[], [],rfl,h3,h2,by simp,by simpa [AP]using Rd.nil,by simp, .inl ⟨rfl,rfl,a,hv⟩⟩
 ·exact⟨xs,_,rfl,h3,h2,(G0.len ⟨h6,h7,h8,h9,rfl⟩),F4,G3, .inr ⟨g,cap,C,rfl,⟨h6,h7,h8,h9,rfl⟩,rfl⟩⟩
theorem zyp {P:Program} {w:World} {t el:TypeId} {v:Value} {x:AV} {rf hs:List Nat} (ha:Aq P t=false) (hl:A6 P t= [t]) (he:CI P t=some el) (hf:Ca P el=true) (h:PK P w t [true] v x rf hs):rf= []∧CZ w el (P.cellsOf el) v x hs []:=by
 obtain⟨us,ys,h1,h2⟩:=h;rw [ha]at h1;simp only [AM,if_false]at h1;obtain⟨rfl,rfl⟩:=h1;rw [hl]at h2;cases h2 with
 |own q1 q2 q3 q4 q5=>
  cases q5;rw [he]at q2;cases q2;rcases q3 with⟨_,rfl⟩|⟨h,_⟩
  ·exact⟨rfl,by simpa using q4⟩
  ·rw [hf]at h;cases h
 |deep q1 q2 q3=>rw [he]at q2;cases q2;rw [hf]at q3;cases q3
 |rd q1=>have:=q1 rfl;rw [he]at this;cases this
def kP (P:Program) (sg:BT) (f:Nat) (t it el K:Nat):Bool:=
 match P.funcs[f]?,sg f with
 |some fn,some s=>(match s.cr,s.res,s.ft,s.lo with
  | [.va [true], .ro, .va [true]], [true], [], []=>true
  |_,_,_,_=>false)&&fn.body.isSome&& !(fn.name== "runtime.NumGoroutine")&&fn.params.toList== [t,it,t]&&fn.resultTypes.toList== [t]&&fn.nfree==0&& !Aq P t&&A6 P t== [t]&&CI P t==some el&&Ca P el&&P.cellsOf el==K&&GV P t [true]&&fn.params.size==3
 |_,_=>false
def jV (P:Program) (sg:BT) (f:Nat) (r:List AV):Bool:=match P.funcs[f]?,sg f with
 |some fn,some s=>Nw P fn s (.sl r)
 |_,_=>false
theorem zH3 {f t it el K:Nat} (hk:kP Tryz.prog Cj f t it el K=true) (Ej: ∀r,jV Tryz.prog Cj f r=true) (EE:kF Tryz.prog f el K) (xs ys:List AV) (i:Int) (h0:0≤i) (h1:i≤xs.length) (hy:ys≠ []) (hb:(xs.length+ys.length)*1000≤140737488355328):
  Ck Tryz.prog Cj f [.sl xs, .int .i64 i, .sl ys] (.sl (xs.take i.toNat++ys++xs.drop i.toNat)):=by
 unfold kP at hk;split at hk
 ·rename_i fn s hf hs;simp only [Ae,Bool.not_eq_true',beq_iff_eq]at hk;obtain⟨⟨⟨⟨⟨⟨⟨⟨⟨⟨⟨⟨g1,g2⟩,g3⟩,g4⟩,g5⟩,g6⟩,g7⟩,g8⟩,g9⟩,g10⟩,g11⟩,g12⟩,g13⟩:=hk;obtain⟨hm,hr,Ek,Cc⟩:s.cr= [.va [true], .ro, .va [true]]∧s.res= [true]∧s.ft= []∧s.lo= []:=by
   split at g1
   ·rename_i a b c d;exact⟨a,b,c,d⟩
   ·cases g1
  unfold Ck;rw [if_pos (SG f s hs)];refine⟨s,hs,fn,hf,g2,g3,by have:=Ej (xs.take i.toNat++ys++xs.drop i.toNat);unfold jV at this;rw [hf,hs]at this;exact this,by simp [g6,g13],by simp [Ek],fun w vs rf lf Bb Ay hd _ Ce Ed=> ?_⟩;rw [g4,Ek,List.append_nil,hm,Cc]at Ay;cases Ay with
  |lent h _ _ _=>cases h
  | @cons _ _ _ _ v1 vs1 _ _ f1 k1 rf1 lf1 BI a1 Ay=>
   cases Ay with
   |lent h _ _ _=>cases h
   | @cons _ _ _ _ v2 vs2 _ _ f2 k2 rf2 lf2 A4 a2 Ay=>
    cases Ay with
    |lent h _ _ _=>cases h
    | @cons _ _ _ _ v3 vs3 _ _ f3 k3 rf3 lf3 Gl a3 Ay=>
     cases Ay;obtain⟨rfl,r1⟩:=zyp g7 g8 g9 g10 a1;obtain⟨rfl,r3⟩:=zyp g7 g8 g9 g10 a3;obtain⟨a2,rfl⟩:Rd w [v2] [AV.int .i64 i] f2∧k2= []:=a2;obtain⟨us,rfl2,hI,a2⟩:=Wz a2;obtain⟨rfl,rfl⟩:=LW a2;cases rfl2;obtain⟨xs',cs,e1,p0,p1,p2,p3,p4,p5⟩:=r1.mz;cases e1;obtain⟨ys',cv,e2,_,q1,q2,q3,q4,q5⟩:=r3.mz;cases e2;rw [g11]at p0 p1 p2 p5 q1 q2 q5;obtain⟨vb,vc,VC,rfl,hv,rfl⟩: ∃g cap C,v3= .slice (some ⟨g,0,none⟩) ys.length cap∧G0 w el K g cap C ys.length cv∧k3= [g]:=by
      rcases q5 with⟨h,_⟩|h
      ·exact absurd h hy
      ·exact h
     have hnd':k1++ [vb]=k1++([]++([vb]++ [])):=by simp
     have W0: ∀g∈k1,vb≠g:=by intro g hg e;subst e;have:=(List.nodup_append.1 Ce).2.2 vb hg vb (by simp);exact this rfl
     have hym:0<ys.length:=by cases ys with|nil=>exact absurd rfl hy|cons=>simp
     have hc:=EE w v1 xs.length i.toNat cs k1 vb vc ys.length VC cv p2 (by
      rcases p5 with⟨rfl,_,q,rfl⟩|⟨g,cap,C,rfl,h,rfl⟩
      ·exact .inl ⟨rfl,q,rfl⟩
      ·exact .inr ⟨g,cap,C,rfl,h,by simp⟩) (by omega) hv W0 hym hb q4 p4
     rw [show((i.toNat:Nat):Int)=i by omega]at hc;refine hc.mono ?_;rintro e w' ⟨u,rfl,g,cap,C,rfl,⟨z1,z2,z3,z4,z5⟩,Dr,El⟩;have IP: ∀{us:List Value} {zs:List AV},Rd w us zs []→Rd w' us zs []:=fun h=>h.frame (by simp);have cut: ∀o n,Rd w ((cs.drop o).take n) (((AP xs).drop o).take n) []:=fun o n=>by
      obtain⟨gg,k1,k2⟩:=p3.piece o n;have:gg= []:=List.eq_nil_iff_forall_not_mem.2 fun b hb=>by simpa using k1 b hb
      rw [this]at k2;exact k2
     obtain⟨t1,t2⟩:=zCg p1 (i:=i.toNat) (by omega);have hmul:=Nat.mul_le_mul_right K (show i.toNat≤xs.length by omega);have Dz:Rd w' (cs.take (i.toNat*K)++cv++cs.drop (i.toNat*K)) (AP (xs.take i.toNat++ys++xs.drop i.toNat)) []:=by rw [qJ,qJ,t1,t2];have c1:=cut 0 (i.toNat*K);have c2:=cut (i.toNat*K) (cs.length-i.toNat*K);rw [List.drop_zero,List.drop_zero]at c1;rw [List.take_of_length_le (by simp),List.take_of_length_le (by rw [List.length_drop,Nn _ p1,p2];exact Nat.le_refl _)]at c2;exact(((IP c1).app (IP q3)).app (IP c2))
     have hlen:(xs.take i.toNat++ys++xs.drop i.toNat).length=xs.length+ys.length:=by simp only [As,List.length_take,List.length_drop];omega
     have BC:CZ w' el K (.slice (some ⟨g,0,none⟩) (xs.length+ys.length) cap) (.sl (xs.take i.toNat++ys++xs.drop i.toNat)) [g] []:=by
      refine⟨_,rfl,fun y hy=> ?_,p0, .inr ⟨g,cap,C,by rw [hlen],by rw [hlen];exact z1,z2,z3,z4,rfl, ?_, ?_⟩⟩
      ·rcases Ai.1 hy with hy|hy
       ·rcases Ai.1 hy with hy|hy
        ·exact p1 y (List.mem_of_mem_take hy)
        ·exact q1 y hy
       ·exact p1 y (List.mem_of_mem_drop hy)
      ·rw [hlen,←z5];intro u hu;rcases Ai.1 hu with hu|hu
       ·rcases Ai.1 hu with hu|hu
        ·exact p4 u (List.mem_of_mem_take hu)
        ·exact q4 u hu
       ·exact p4 u (List.mem_of_mem_drop hu)
      ·rw [hlen,←z5];exact Dz
     refine⟨_,rfl,⟨⟨_, [], [], [g], [], [],rfl, ?_, ?_,by simp, ?_,by simp⟩,Dr.weaken fun b hb=> .inl (by simp [hb])⟩⟩
     ·rw [g5];show ES Tryz.prog w' t s.res _ _ [] [g];unfold ES;rw [hr,if_pos g12];refine⟨[.slice (some ⟨g,0,none⟩) (xs.length+ys.length) cap], [.sl (xs.take i.toNat++ys++xs.drop i.toNat)],by rw [g7];simp, ?_⟩;rw [g8];have:=Cp.own (P:=Tryz.prog) (t:=t) (ts:= []) (fl:= [true]) (us:= []) (ys:= []) (rf:= []) (hs:= []) rfl g9 (.inl ⟨g10,rfl⟩) (by rw [g11];exact BC) .nil;simpa using this
     ·rw [g4,Ek,List.append_nil,hm];exact .va rfl (.ro rfl (.va rfl .nil))
     ·intro b hb;simp only [List.append_nil,List.mem_singleton]at hb;subst hb;exact⟨by rcases El with h|h;exact .inl (by simp [h]);exact .inr h,FM z3⟩
 ·cases hk
noncomputable def cJ {α:Type} (xs:List α) (i:Int) (ys:List α):Option (List α):=AD (0≤i∧i≤xs.length∧0<ys.length∧(xs.length+ys.length)*1000≤140737488355328) (some (xs.take i.toNat++ys++xs.drop i.toNat))
theorem zIE {f t it el K:Nat} (hk:kP Tryz.prog Cj f t it el K=true) (Ej: ∀r,jV Tryz.prog Cj f r=true) (EE:kF Tryz.prog f el K) {α:Type} {av:α→AV} {xs ys r:List α} {i:Int} (h:cJ xs i ys=some r):
  Ck Tryz.prog Cj f [.sl (xs.map av), .int .i64 i, .sl (ys.map av)] (.sl (r.map av)):=by
 obtain⟨⟨h0,h1,h2,h3⟩,h⟩:=Gw h;cases h;have:=zH3 hk Ej EE (xs.map av) (ys.map av) i h0 (by simpa using h1) (by cases ys with|nil=>simp at h2|cons=>simp) (by simpa using h3);simpa [List.map_append,List.map_take,List.map_drop]using this
theorem qM: ∃i z,Tryz.prog.info? 145=some i∧i.size=3∧i.zero=some z∧z.cells.size=3∧i.bytes≤1000:=by
 have h:(match Tryz.prog.info? 145 with|some i=>(match i.zero with|some z=>i.size==3&&z.cells.size==3&&decide (i.bytes≤1000)|none=>false)|none=>false)=true:=by kernel_rfl
 split at h
 ·rename_i i hi;split at h
  ·rename_i z hz;simp only [Ae,beq_iff_eq,decide_eq_true_eq]at h;exact⟨i,z,hi,h.1.1,hz,h.1.2,h.2⟩
  ·cases h
 ·cases h
set_option maxHeartbeats 4000000 in
theorem zxu (w:World) (v:Value) (n:Nat) (cs:List Value) (own:List Nat) (AH:cs.length=n*3) (BK:(n=0∧ ∃q,v= .slice q 0 0)∨ ∃g cap C,v= .slice (some ⟨g,0,none⟩) n cap∧G0 w 145 3 g cap C n cs∧g∈own)
  (vb vc m:Nat) (VC:Array Value) (vs:List Value) (hv:G0 w 145 3 vb vc VC m vs) (hm:0<m) (hb:(n+m)*1000≤140737488355328) (KU: ∀u∈vs,u.oneCell'=true):
  Calls Tryz.prog 257 #[v, .int .i64 n, .slice (some ⟨vb,0,none⟩) m vc] w fun e w'=> ∃u,e= .returned u∧OO w w' 145 3 own u (n+m) (cs++vs):=by
 obtain⟨i0,z0,hi,hs,hz,DR,GA⟩:=qM;have Xr: ¬((m:Int)=0):=by omega
 have FH:Src w i0.size (some ⟨vb,0,none⟩) m vs:= .inr ⟨_,rfl,by rw [hs];exact hv.len,fun j u hj=>hv.cell 0 j u (by simpa using hj),KU⟩;obtain⟨v',w1,hr,AS⟩:=sZ (P:=Tryz.prog) w 35 35 145 i0 z0 Tryz.underlying35 hi hz (by rw [DR,hs]) (by omega) (fun b=>b∈own) v n cs (by rw [hs];exact AH)
  (by
   rcases BK with h|⟨g,cap,C,rfl,⟨h1,h2,h3,h4,h5⟩,h6⟩
   ·exact .inl h
   ·exact .inr ⟨g,cap,C,rfl,h1,h2,h3,by rw [hs];exact h4,by rw [hs];exact h5,h6⟩)
  (some ⟨vb,0,none⟩) m vc vs FH (by simp only [maxLen];omega) (by have:=Nat.mul_le_mul_left (n+m) GA;omega)
 have fin:OO w w1 145 3 own v' (n+m) (cs++vs):=by
  rcases AS with⟨_,_,h⟩|⟨g,cap,C,rfl,h1,h2,h3,h4,h5,h6,h7⟩
  ·omega
  ·refine⟨g,cap,C,rfl,⟨h1,h2,h3,by rw [hs]at h4;exact h4,by rw [hs]at h5;exact h5.symm⟩, ?_,h7.symm.imp id fun h=>by omega⟩;refine⟨h6.os,h6.tape,h6.output,h6.size,fun b hb hn=>h6.block b hb fun e=> ?_⟩;cases e;rcases h7 with h7|h7
   ·omega
   ·exact hn h7
 clear AS;rcases BK with⟨rfl,q,rfl⟩|⟨g,cap,C,rfl,_,_⟩
 ·cases q with
  |none=>
   go_enter Tryz.func257,Tryz.ntmps257
   go_wp2_with (at_builtin;refine Lib.wpList_append_run _ rfl _ _ _ _ rfl _ _ rfl rfl _ _ hr ?_)
   all_goals (go_ret;exact⟨_,rfl,fin⟩)
  |some q=>
   obtain⟨qb,qo,qs⟩:=q
   go_enter Tryz.func257,Tryz.ntmps257
   go_wp2_with (at_builtin;refine Lib.wpList_append_run _ rfl _ _ _ _ rfl _ _ rfl rfl _ _ hr ?_)
   all_goals (go_ret;exact⟨_,rfl,fin⟩)
 ·go_enter Tryz.func257,Tryz.ntmps257
  go_wp2_with (at_builtin;refine Lib.wpList_append_run _ rfl _ _ _ _ rfl _ _ rfl rfl _ _ hr ?_)
  all_goals (go_ret;exact⟨_,rfl,fin⟩)
set_option maxHeartbeats 4000000 in
theorem zvg (w:World) (n i g cap:Nat) (C:Array Value) (cs:List Value) (own:List Nat) (vb vc m:Nat) (BK:G0 w 145 3 g cap C n cs) (Cb:i<n) (Cv:cap<n+m)
  (VC:Array Value) (vs:List Value) (hv:G0 w 145 3 vb vc VC m vs) (hm:0<m) (hb:(n+m)*1000≤140737488355328) (KU: ∀u∈vs,u.oneCell'=true) (IM: ∀u∈cs,u.oneCell'=true):
  Calls Tryz.prog 257 #[.slice (some ⟨g,0,none⟩) n cap, .int .i64 i, .slice (some ⟨vb,0,none⟩) m vc] w fun e w'=> ∃u,e= .returned u∧OO w w' 145 3 own u (n+m) (cs.take (i*3)++vs++cs.drop (i*3)):=by
 obtain⟨i0,z0,hi,hs,hz,DR,GA⟩:=qM;have AH:=BK.len;have Ef:=hv.len;have eK:=BK;obtain⟨TI,K2,hg,S6,Bi⟩:=eK;have hgw:g<w.heap.size:=FM hg;have hvw:vb<w.heap.size:=FM hv.2.2.1;have B7:(Tryz.prog.info? 145).map (·.size)=some 3:=by rw [hi];simp [hs]
 have fL:i+(n+m-i)=n+m:=by omega
 have W5:(n+m)*i0.bytes≤140737488355328:=Nat.le_trans (Nat.mul_le_mul_left _ GA) hb;have PX:(n+m-i)*i0.bytes≤140737488355328:=Nat.le_trans (Nat.mul_le_mul_right _ (by omega)) W5;have hold:(Builtin.firstCells i0.size i (.slice (some ⟨g,0,none⟩) i cap)).run Tryz.prog w.drew= .ok (cs.take (i*3)).toArray w.drew:=by
  rw [hs];exact run_firstCells_some w.drew 3 i ⟨g,0,none⟩ i cap (cs.take (i*3)) (by rw [List.length_take];omega) (fun j v hj=>by
   rw [List.getElem?_take]at hj;split at hj
   ·exact BK.cell 0 j v (by simpa using hj)
   ·cases hj)
 have gX: ∀ty,(Builtin.append_ #[35,3] ty #[.slice (some ⟨g,0,none⟩) i cap, .int .i64 ((n:Int)+(m:Int)-(i:Int))]).run Tryz.prog w=
   .ok (.slice (some ⟨w.heap.size,0,none⟩) (n+m) (grownCap w (n+m) cap 145)) (w.drew.alloc (.cells ((cs.take (i*3)).toArray++Builtin.zeroCells z0.cells (n+m-i)++Builtin.zeroCells z0.cells (grownCap w (n+m) cap 145-(n+m))) 145)):=fun ty=>by
  have h:=Lib.run_append_grow_zeros w 35 3 ty 145 i0 z0 .i64 .i64 Tryz.underlying35 Tryz.underlying3 hi hz (some ⟨g,0,none⟩) i cap (cs.take (i*3)) hold (n+m-i) (by omega) (by omega) (by omega) (by omega) (by omega) (by rw [fL];exact growslice_fits Cv W5);rw [fL]at h;rw [show(n:Int)+(m:Int)-(i:Int)=((n+m-i:Nat):Int) by omega];exact h
 obtain⟨G,hG⟩: ∃G,G=grownCap w (n+m) cap 145:=⟨_,rfl⟩
 obtain⟨ROW,KX⟩: ∃ROW:Array Value,ROW=(cs.take (i*3)).toArray++Builtin.zeroCells z0.cells (n+m-i)++Builtin.zeroCells z0.cells (G-(n+m)):=⟨_,rfl⟩
 have hGn:n+m≤G:=by rw [hG];exact grownCap_ge w _ _ _
 have S8:G≤maxLen:=by rw [hG];exact grownCap_le_maxLen w (n+m) cap 145 (by unfold maxLen;omega)
 have hG64:G≤9223372036854775807:=S8;rw [←hG]at gX;rw [←KX]at gX;have hRs:ROW.size=G*3:=by rw [KX];simp only [Array.size_append,List.size_toArray,List.length_take,size_zeroCells,DR];omega
 obtain⟨ROW2,HE⟩: ∃R:Array Value,R=(ROW.toList.take (i*3)++vs++ROW.toList.drop (i*3+vs.length)).toArray:=⟨_,rfl⟩
 obtain⟨ROW3,WV⟩: ∃R:Array Value,R=(ROW2.toList.take ((i+m)*3)++cs.drop (i*3)++ROW2.toList.drop ((i+m)*3+(cs.drop (i*3)).length)).toArray:=⟨_,rfl⟩
 have dY:ROW2.size=G*3:=by rw [HE];simp only [List.size_toArray,As,List.length_take,List.length_drop,Array.length_toList];omega
 have dZ:ROW3.size=G*3:=by rw [WV];simp only [List.size_toArray,As,List.length_take,List.length_drop,Array.length_toList];omega
 obtain⟨N,hN⟩: ∃N,N=w.heap.size:=⟨_,rfl⟩
 have hA:(w.alloc (.cells ROW 145)).heap[N]?=some (.cells ROW 145 (0,0)):=by rw [hN];exact heap_alloc_new w _
 have hO: ∀k,k<N→(w.alloc (.cells ROW 145)).heap[k]?=w.heap[k]?:=fun k hk=>Below.heap_alloc w _ k (by omega);have eO: ∀(W:World),W.heap=(w.alloc (.cells ROW 145)).heap→ ∀ty dc,(Builtin.copy_ #[35,35] ty #[.slice (some ⟨N,i*3,none⟩) (n+m-i) dc, .slice (some ⟨vb,0,none⟩) m vc]).run Tryz.prog W= .ok (goInt m) (W.setRow N ROW2):=fun W hW ty dc=>by
  have h:=ZX (P:=Tryz.prog) W 35 35 ty 145 3 N (i*3) (n+m-i) dc ⟨vb,0,none⟩ m vc ROW 145 vs Tryz.underlying35 B7 (by rw [hW];exact hA) (by rw [Ef,show Nat.min m (n+m-i)=m from Nat.min_eq_left (by omega)])
   (fun j v hj=>by rw [World.cell?_of_block (w:=w) (by rw [Addr.add_lit,hW];exact hO vb (by omega))];exact hv.cell 0 j v (by simpa using hj)) (by rw [hRs,Ef];omega) KU
  rw [show Nat.min m (n+m-i)=m from Nat.min_eq_left (by omega),←HE]at h;exact h
 have hB:((w.alloc (.cells ROW 145)).setRow N ROW2).heap[N]?=some (.cells ROW2 145 (0,0)):=setRow_heap _ _ _ _ _ _ hA;have dW: ∀k,k<N→((w.alloc (.cells ROW 145)).setRow N ROW2).heap[k]?=w.heap[k]?:=fun k hk=>by rw [setRow_other _ _ _ _ (by omega)];exact hO k hk
 have To: ∀(W:World),W.heap=((w.alloc (.cells ROW 145)).setRow N ROW2).heap→ ∀ty dc sc,(Builtin.copy_ #[35,35] ty #[.slice (some ⟨N,(i+m)*3,none⟩) (n+m-(i+m)) dc, .slice (some ⟨g,i*3,none⟩) (n-i) sc]).run Tryz.prog W= .ok (goInt ((n-i:Nat):Int)) (W.setRow N ROW3):=fun W hW ty dc sc=>by
  have h:=ZX (P:=Tryz.prog) W 35 35 ty 145 3 N ((i+m)*3) (n+m-(i+m)) dc ⟨g,i*3,none⟩ (n-i) sc ROW2 145 (cs.drop (i*3)) Tryz.underlying35 B7 (by rw [hW];exact hB) (by rw [List.length_drop,AH,show Nat.min (n-i) (n+m-(i+m))=n-i from Nat.min_eq_left (by omega)];omega)
   (fun j v hj=>by rw [World.cell?_of_block (w:=w) (by rw [Addr.add_lit,hW];exact dW g (by omega))];exact BK.cell (i*3) j v hj) (by rw [dY,List.length_drop,AH];omega) (fun v hv=>IM v (List.mem_of_mem_drop hv))
  rw [show Nat.min (n-i) (n+m-(i+m))=n-i from Nat.min_eq_left (by omega),←WV]at h;exact h
 have fin: ∀W:World,W.os=w.os→W.tape=w.tape→W.output=w.output→W.heap=(((w.alloc (.cells ROW 145)).setRow N ROW2).setRow N ROW3).heap→OO w W 145 3 own (.slice (some ⟨N,0,none⟩) (n+m) G) (n+m) (cs.take (i*3)++vs++cs.drop (i*3)):=fun W w1 w2 w3 hW=>by refine⟨N,G,ROW3,rfl,⟨hGn,S8,by rw [hW];exact setRow_heap _ _ _ _ _ _ hB,dZ, ?_⟩,⟨w1,w2,w3,by rw [hW];simp,fun k hk _=>by rw [hW,setRow_other _ _ _ _ (by omega)];exact dW k (by omega)⟩, .inr (by omega)⟩;have h:=two ((Builtin.zeroCells z0.cells (n+m-i)).toList++(Builtin.zeroCells z0.cells (G-(n+m))).toList) cs vs (i*3) (m*3) (n*3) ROW.toList (by rw [KX];simp) AH (Nat.mul_le_mul_right _ (by omega)) Ef (by simp only [As,Array.length_toList,size_zeroCells,DR];omega);rw [WV,HE,Nat.add_mul n m,Nat.add_mul i m];exact h.symm
 have Xr: ¬((m:Int)=0):=by omega
 have T3: ¬((i:Int)=(n:Int)):=by omega
 have hz3:(cap:Int)<(n:Int)+(m:Int):=by omega
 have hGi: ¬(G=i):=by omega
 have hGim: ¬(G=i+m):=by omega
 have Tl: ¬(cap=i):=by omega
 have JS:IntKind.i64.wrap ((i:Int)+(m:Int))=(i:Int)+(m:Int):=by rw [IntKind.wrap_i64];omega
 have Ew:(0:Int)≤(i:Int)+(m:Int):=by omega
 have fN:i≤n:=by omega
 have htn:((i:Int)+(m:Int)).toNat=i+m:=by omega
 have IN:(i:Int)≤(n:Int):=by omega
 have s9:((w.alloc (.cells ROW 145)).drew).heap=(w.alloc (.cells ROW 145)).heap:=rfl;have dN:(((w.alloc (.cells ROW 145)).drew.setRow N ROW2).drew).heap=((w.alloc (.cells ROW 145)).setRow N ROW2).heap:=rfl;subst hN;clear hold fL KX hG HE WV hA hO hB dW Bi
 go_enter Tryz.func257,Tryz.ntmps257
 go_wp2_with (first
  |(at_builtin;refine Lib.wpList_append_run _ rfl _ _ _ _ rfl _ _ rfl rfl _ _ (gX _) ?_)
  |(at_builtin;refine oG _ rfl _ _ 35 35 rfl _ _ rfl rfl (eO _ s9 _ _) ?_)
  |(at_builtin;refine oG _ rfl _ _ 35 35 rfl _ _ rfl rfl (To _ rfl _ _ _) ?_))
 go_region_law (refine zur rfl _ _ 35 35 rfl (.slice (some ⟨w.heap.size,(i+m)*3,none⟩) (n+m-(i+m)) (G-(i+m))) (.slice (some ⟨g,i*3,none⟩) (n-i) (cap-i)) (by simp [Act.eval,Act.put]) (by simp [Act.eval,Act.put]) (To _ dN 3 (G-(i+m)) (cap-i)) ?_)
 go_wp2
 go_ret
 exact⟨_,rfl,fin _ rfl rfl rfl rfl⟩
set_option maxHeartbeats 4000000 in
theorem zsy (w:World) (n i g cap:Nat) (C:Array Value) (cs:List Value) (own:List Nat) (vb vc m:Nat) (BK:G0 w 145 3 g cap C n cs) (El:g∈own) (Cb:i<n) (Cv:n+m≤cap) (Xn:vb≠g)
  (VC:Array Value) (vs:List Value) (hv:G0 w 145 3 vb vc VC m vs) (hm:0<m) (hb:(n+m)*1000≤140737488355328) (KU: ∀u∈vs,u.oneCell'=true) (IM: ∀u∈cs,u.oneCell'=true):
  Calls Tryz.prog 257 #[.slice (some ⟨g,0,none⟩) n cap, .int .i64 i, .slice (some ⟨vb,0,none⟩) m vc] w fun e w'=> ∃u,e= .returned u∧OO w w' 145 3 own u (n+m) (cs.take (i*3)++vs++cs.drop (i*3)):=by
 obtain⟨i0,z0,hi,hs,hz,DR,GA⟩:=qM;have AH:=BK.len;have Ef:=hv.len;have eK:=BK;obtain⟨TI,K2,hg,S6,Bi⟩:=eK;have hgw:g<w.heap.size:=FM hg;have B7:(Tryz.prog.info? 145).map (·.size)=some 3:=by rw [hi];simp [hs]
 have hc64:cap≤9223372036854775807:=K2;have MJ:=hv.2.2.1;have TP: ∀lb cb,(callFunc 278 #[.slice (some ⟨vb,0,none⟩) m vc, .slice (some ⟨g,(i+m)*3,none⟩) lb cb]).run Tryz.prog w= .ok (.value (.bool false)) w:=fun lb cb=>by
  rw [run_callFunc_extern Tryz.func278 (by kernel_rfl) (by kernel_rfl) (by kernel_rfl) (e:=Extern.SlicesOverlaps.overlaps #[35,35] #[4]) (by kernel_rfl),
   Lib.run_overlaps_apart w 35 4 145 Tryz.underlying35 3 (fun w=>by simp [Go.sizeOf,typeInfo,hi,hs]) ⟨vb,0,none⟩ ⟨g,(i+m)*3,none⟩ m vc lb cb Xn 145 145 VC.size C.size (by simp [World.shape?,MJ]) (by simp [World.shape?,hg]) (by omega) (by simp [World.frozen?,MJ]) (by simp [World.frozen?,MJ])]
  rfl
 obtain⟨C1,KV⟩: ∃R:Array Value,R=(C.toList.take ((i+m)*3)++cs.drop (i*3)++C.toList.drop ((i+m)*3+(cs.drop (i*3)).length)).toArray:=⟨_,rfl⟩
 obtain⟨C2,WR⟩: ∃R:Array Value,R=(C1.toList.take (i*3)++vs++C1.toList.drop (i*3+vs.length)).toArray:=⟨_,rfl⟩
 have dL:C1.size=cap*3:=by rw [KV];simp only [List.size_toArray,As,List.length_take,List.length_drop,Array.length_toList];omega
 have dM:C2.size=cap*3:=by rw [WR];simp only [List.size_toArray,As,List.length_take,List.length_drop,Array.length_toList];omega
 have eM: ∀(W:World),W.heap=w.heap→ ∀ty dc sc,(Builtin.copy_ #[35,35] ty #[.slice (some ⟨g,(i+m)*3,none⟩) (n+m-(i+m)) dc, .slice (some ⟨g,i*3,none⟩) (n+m-i) sc]).run Tryz.prog W= .ok (goInt ((n-i:Nat):Int)) (W.setRow g C1):=fun W hW ty dc sc=>by
  have h:=ZX (P:=Tryz.prog) W 35 35 ty 145 3 g ((i+m)*3) (n+m-(i+m)) dc ⟨g,i*3,none⟩ (n+m-i) sc C 145 (cs.drop (i*3)) Tryz.underlying35 B7 (by rw [hW];exact hg) (by rw [List.length_drop,AH,show Nat.min (n+m-i) (n+m-(i+m))=n-i from by rw [show Nat.min (n+m-i) (n+m-(i+m))=n+m-(i+m)from Nat.min_eq_right (by omega)];omega];omega)
   (fun j v hj=>by rw [World.cell?_of_block (w:=w) (by rw [hW])];exact BK.cell (i*3) j v hj) (by rw [S6,List.length_drop,AH];omega) (fun v hv=>IM v (List.mem_of_mem_drop hv))
  rw [show Nat.min (n+m-i) (n+m-(i+m))=n-i from by rw [show Nat.min (n+m-i) (n+m-(i+m))=n+m-(i+m)from Nat.min_eq_right (by omega)];omega,←KV]at h;exact h
 have hB:(w.setRow g C1).heap[g]?=some (.cells C1 145 (0,0)):=setRow_heap _ _ _ _ _ _ hg;have eN: ∀(W:World),W.heap=(w.setRow g C1).heap→ ∀ty dc,(Builtin.copy_ #[35,35] ty #[.slice (some ⟨g,i*3,none⟩) (n+m-i) dc, .slice (some ⟨vb,0,none⟩) m vc]).run Tryz.prog W= .ok (goInt m) (W.setRow g C2):=fun W hW ty dc=>by
  have h:=ZX (P:=Tryz.prog) W 35 35 ty 145 3 g (i*3) (n+m-i) dc ⟨vb,0,none⟩ m vc C1 145 vs Tryz.underlying35 B7 (by rw [hW];exact hB) (by rw [Ef,show Nat.min m (n+m-i)=m from Nat.min_eq_left (by omega)])
   (fun j v hj=>by rw [World.cell?_of_block (w:=w) (by rw [Addr.add_lit,hW];exact setRow_other _ _ _ _ (by simpa using Xn))];exact hv.cell 0 j v (by simpa using hj)) (by rw [dL,Ef];omega) KU
  rw [show Nat.min m (n+m-i)=m from Nat.min_eq_left (by omega),←WR]at h;exact h
 have fin: ∀W:World,W.os=w.os→W.tape=w.tape→W.output=w.output→W.heap=((w.setRow g C1).setRow g C2).heap→OO w W 145 3 own (.slice (some ⟨g,0,none⟩) (n+m) cap) (n+m) (cs.take (i*3)++vs++cs.drop (i*3)):=fun W w1 w2 w3 hW=>by refine⟨g,cap,C2,rfl,⟨Cv,K2,by rw [hW];exact setRow_heap _ _ _ _ _ _ hB,dM, ?_⟩,⟨w1,w2,w3,by rw [hW];simp,fun k hk hn=>by rw [hW,setRow_other _ _ _ _ (fun e=>hn (by first|(rw [e];exact El)|(rw [←e];exact El))),setRow_other _ _ _ _ (fun e=>hn (by first|(rw [e];exact El)|(rw [←e];exact El)))]⟩, .inl El⟩;have h:=zKb C.toList cs vs (i*3) (m*3) (n*3) Bi (Nat.mul_le_mul_right _ (by omega)) Ef (by rw [Array.length_toList,S6];omega);rw [WR,KV,Nat.add_mul n m,Nat.add_mul i m];exact h.symm
 have Xr: ¬((m:Int)=0):=by omega
 have T3: ¬((i:Int)=(n:Int)):=by omega
 have hz3: ¬((cap:Int)<(n:Int)+(m:Int)):=by omega
 have Tl: ¬(cap=i):=by omega
 have hcim: ¬(cap=i+m):=by omega
 have JS:IntKind.i64.wrap ((i:Int)+(m:Int))=(i:Int)+(m:Int):=by rw [IntKind.wrap_i64];omega
 have Ew:(0:Int)≤(i:Int)+(m:Int):=by omega
 have fN:i≤n:=by omega
 have htn:((i:Int)+(m:Int)).toNat=i+m:=by omega
 have IN:(i:Int)≤(n:Int):=by omega
 have hb4:(i:Int)≤(n:Int)+(m:Int):=by omega
 have dN:(w.drew).heap=w.heap:=rfl;have hF2:(w.drew.setRow g C1).heap=(w.setRow g C1).heap:=rfl;clear KV WR hB Bi MJ hg
 go_enter Tryz.func257,Tryz.ntmps257
 go_wp2_with (simp only [TP])
 go_region_law (refine zur rfl _ _ 35 35 rfl (.slice (some ⟨g,(i+m)*3,none⟩) (n+m-(i+m)) (cap-(i+m))) (.slice (some ⟨g,i*3,none⟩) (n+m-i) (cap-i)) (by simp [Act.eval,Act.put]) (by simp [Act.eval,Act.put]) (eM _ dN 3 (cap-(i+m)) (cap-i)) ?_)
 go_wp2_with (at_builtin;refine oG _ rfl _ _ 35 35 rfl _ _ rfl rfl (eN _ hF2 _ _) ?_)
 go_ret
 exact⟨_,rfl,fin _ rfl rfl rfl rfl⟩
theorem zEX:kF Tryz.prog 257 145 3:=by
 intro w v n i cs own vb vc m VC vs AH BK Cb hv Xn hm hb KU IM;by_cases he:i=n
 ·subst he;refine(zxu w v i cs own AH BK vb vc m VC vs hv hm hb KU).mono ?_;rintro e w' ⟨u,rfl,h⟩;refine⟨u,rfl, ?_⟩;rw [List.take_of_length_le (by omega),List.drop_eq_nil_of_le (by omega),List.append_nil];exact h
 ·rcases BK with⟨rfl,_⟩|⟨g,cap,C,rfl,hr,hg⟩
  ·omega
  ·by_cases hc:n+m≤cap
   ·exact zsy w n i g cap C cs own vb vc m hr hg (by omega) hc (Xn g hg) VC vs hv hm hb KU IM
   ·exact zvg w n i g cap C cs own vb vc m hr (by omega) (by omega) VC vs hv hm hb KU IM
end Go.Proofs.YtfdfahjmonlbiaaGreatDoor
end
section
namespace Go.Proofs.YtfdfahjmonlbiaaGreatDoor
open Go Go.Proofs Go.Shelf Go.Sort Go.RowKit
set_option maxRecDepth 100000
set_option maxHeartbeats 1000000
def zX (P:Program) (sg:BT) (f np:Nat) (r:AV):Bool:=
 match P.funcs[f]?,sg f with
 |some fn,some s=>fn.body.isSome&& !(fn.name== "runtime.NumGoroutine")&&Nw P fn s r&&s.cr.all (fun m=>match m with| .ro=>true|_=>false)&&fn.params.size==np&&fn.nfree==0&&(s.ft.isEmpty&&s.lo.isEmpty)&&(match fn.resultTypes.toList with| [t,u]=> !GV P t s.res&& !GV P u (s.res.drop (A6 P t).length)|_=>false)
 |_,_=>false
theorem zF4 {f:Nat} {xs:List AV} {y1 y2:AV} (hk:zX Tryz.prog Cj f xs.length (.tup [y1,y2])=true) (hc: ∀(w:World) (vs:List Value) (rf:List Nat),FL.n≤w.heap.size→FL.K w→Rd w vs xs rf→Calls Tryz.prog f vs.toArray w fun e w'=>Mod [] w w'∧ ∃v1 v2 f1 f2,e= .returned (.tuple #[v1,v2])∧Rd w' [v1] [y1] f1∧Rd w' [v2] [y2] f2∧ ∀b∈f1++f2,b∈rf∨w.heap.size≤b):Ck Tryz.prog Cj f xs (.tup [y1,y2]):=by
 unfold zX at hk;split at hk
 ·rename_i fn s hf hs;simp only [Ae,Bool.not_eq_true',beq_iff_eq,AR]at hk;obtain⟨⟨⟨⟨⟨⟨⟨h1,h2⟩,h3⟩,h4⟩,h5⟩,h6⟩,Ek⟩,h7⟩:=hk;obtain⟨Ek,Cc⟩:s.ft= []∧s.lo= []:=by simpa using Ek
  have Hi: ∀m∈s.cr,m= .ro:=fun m hm=>by
   have:=h4 m hm;split at this
   ·rfl
   ·cases this
  unfold Ck;rw [if_pos (SG f s hs)];refine⟨s,hs,fn,hf,h1,h2,h3,by omega,by simp [Ek],fun w vs rf lf Bb Ay hd _ Ce Ed=> ?_⟩;obtain⟨hr,rfl⟩:=Ay.rd Cc Hi;refine(hc w vs rf Ed.1 Ed.2.1 hr).mono ?_;rintro e w' ⟨hm,v1,v2,f1,f2,rfl,EW,Ds,hb⟩;refine⟨_,rfl,⟨⟨.tup [y1,y2], [],f1++f2, [], [], [],rfl, ?_,DU.j2 ?_ Hi,by simp,by simp,fun b BX=>⟨by simp, ?_⟩⟩,hm⟩⟩
  ·split at h7
   ·rename_i t u ht;simp only [Ae,Bool.not_eq_true']at h7;rw [ht];refine⟨[v1,v2], [y1,y2],rfl,rfl, ?_⟩;have a1:ES Tryz.prog w' t s.res v1 y1 f1 []:=by
     unfold ES;rw [if_neg (by rw [h7.1];simp)];exact⟨EW,rfl⟩
    have a2:ES Tryz.prog w' u (s.res.drop (A6 Tryz.prog t).length) v2 y2 f2 []:=by unfold ES;rw [if_neg (by rw [h7.2];simp)];exact⟨Ds,rfl⟩
    have:=Jg.cons a1 (Jg.cons a2 (Jg.nil (P:=Tryz.prog) (w:=w') (fl:=(s.res.drop (A6 Tryz.prog t).length).drop (A6 Tryz.prog u).length)));simpa using this
   ·cases h7
  ·rw [hr.len];simp [Ek];omega
  ·rcases hb b (by simpa using BX)with h|h
   ·exact .inl h
   ·exact .inr (.inr h)
 ·cases hk
def nO (n:Int):Option (List UInt8):=some (Lib.itoa n)
theorem uU {w:World} (h:FL.K w):Lib.TabIs Tryz.prog w "internal/strconv.uint64pow10" .u64 Lib.pow10Tab:=by obtain⟨_,_,k⟩:=h;exact k.trans (by kernel_rfl)
theorem zFu (n:Int) (h0: -9223372036854775808≤n) (h1:n≤9223372036854775807):(Lib.itoa n).length≤9223372036854775807:=by
 have key: ∀(k u:Nat),u<10^k→(Lib.decDigits u).length≤k+1:=by
  intro k
  induction k with
  |zero=>intro u hu;rw [Lib.decDigits,dif_pos (by omega)];simp
  |succ k ih=>
   intro u hu;rw [Lib.decDigits];split
   ·simp
   ·rw [As,AF];have:=ih (u/10) (by rw [Nat.pow_succ]at hu;omega);omega
 unfold Lib.itoa;split
 ·rw [Ap];have:=key 20 n.natAbs (by omega);omega
 ·have:=key 20 n.toNat (by omega)
  omega
theorem Xu {n:Int} (h:ET .i64 n): -9223372036854775808≤n∧n≤9223372036854775807:=by unfold ET at h;rw [IntKind.wrap_i64]at h;omega
theorem wM (w:World) (k:Nat) (os:Array Obj):Mod [] w (grow (w.drewN k) os):=by
 refine⟨rfl,rfl,rfl, ?_,fun b hb _=> ?_⟩
 ·show w.heap.size≤(w.heap++os).size;rw [Array.size_append];omega
 ·show(w.heap++os)[b]?=w.heap[b]?;rw [Array.getElem?_append_left hb]
theorem zuM (a0:Int) (r:List UInt8) (h:nO a0=some r):Ck Tryz.prog Cj 255 [.int .i64 a0] (.str r):=vK (by kernel_rfl) fun w vs rf hK hr=>by obtain⟨us,rfl,hn,hr⟩:=Wz hr;obtain⟨rfl,rfl⟩:=LW hr;cases h;refine(Tryz.strconv_Itoa a0 (Xu hn).1 (Xu hn).2 w (uU hK)).mono ?_;rintro e w' ⟨rfl,k,os,rfl⟩;have hl:=zFu a0 (Xu hn).1 (Xu hn).2;exact⟨wM w k os,_, [],rfl,by have:=Rd.str (w:=grow (w.drewN k) os) (s:=⟨(Lib.itoa a0).toArray⟩) (vs:= []) (xs:= []) (f:= []) (by show(Lib.itoa a0).toArray.size≤_;simpa using hl) .nil;simpa using this,by simp⟩
theorem zDS (w:World) (ty:TypeId) (t:ByteArray):Mod [] w (Lib.bytesWorld w ty t):=Mod.eo (Lib.bytesWorld_below w ty t) (Nat.le_refl _)
theorem vW (a b c:Int) (w:World):Calls Tryz.prog 60 #[.int .i64 a, .int .i64 b, .int .i64 c] w fun e w'=>e= .returned (.bool (decide (a≥b)&&decide (a≤c)))∧w'=w:=by
 by_cases h1:a≥b
 ·go_enter Tryz.func60,Tryz.ntmps60
  go_wp2
  go_ret
  simp [h1]
 ·go_enter Tryz.func60,Tryz.ntmps60
  go_wp2
  go_ret
  simp;intro h;omega
def NF (s:List UInt8) (lo hi:Int):Int × Bool:=match Lib.atoiAll s with
 | .ok n=>if lo≤n∧n≤hi∧Lib.itoa n=s then(n,true)else(0,false)
 |_=>(0,false)
theorem zFo {s:ByteArray} {w:World} (hs:s.size≤281474976710656) (hK:FL.K w) (h: ∀v,Lib.atoiAll s.data.toList≠ .ok v):
  Calls Tryz.prog 291 #[.string s] w fun e w'=> ∃v te N,e= .returned (.tuple #[.int .i64 v, .iface te (.pointer (some ⟨N,0,none⟩))])∧Mod [] w w':=by
 obtain⟨⟨t1,p1,k1⟩,⟨t2,p2,k2⟩,_⟩:=hK;rcases hA:Lib.atoiAll s.data.toList with v|_|_
 ·exact absurd hA (h v)
 ·exact(Any.strconv_Atoi_syntax_var Tryz.gh s hs hA t1 p1 w k1).mono fun e w' ⟨N,he,_,_,hB⟩=>⟨_,_,_,he,Mod.eo hB (Nat.le_refl _)⟩
 ·exact(Any.strconv_Atoi_range_var Tryz.gh s hs hA t2 p2 w k2).mono fun e w' ⟨N,he,_,_,hB⟩=>⟨_,_,_,he,Mod.eo hB (Nat.le_refl _)⟩
theorem zC7 {s:ByteArray} {lo hi:Int} {w:World} (hc:Calls Tryz.prog 291 #[.string s] w fun e w'=> ∃v te N,e= .returned (.tuple #[.int .i64 v, .iface te (.pointer (some ⟨N,0,none⟩))])∧Mod [] w w'):
  Calls Tryz.prog 273 #[.string s, .int .i64 lo, .int .i64 hi] w fun e w'=>e= .returned (.tuple #[.int .i64 0, .bool false])∧Mod [] w w':=by
 go_enter Tryz.func273,Tryz.ntmps273
 go_wp2_with (go_at_call 291;refine hc.mono ?_;rintro e w' ⟨v,te,N,rfl,hm⟩)
 go_ret2
 exact⟨rfl,hm⟩
section
variable (s:ByteArray) (n lo hi:Int) (w:World)
def Qk:Prop:=Calls Tryz.prog 291 #[.string s] w fun e w'=>e= .returned (.tuple #[.int .i64 n, .nilIface])∧Mod [] w w'
theorem zEz (hA:Qk s n w) (hw: ∀W,Calls Tryz.prog 60 #[.int .i64 n, .int .i64 lo, .int .i64 hi] W fun e w'=>e= .returned (.bool false)∧w'=W):
  Calls Tryz.prog 273 #[.string s, .int .i64 lo, .int .i64 hi] w fun e w'=>e= .returned (.tuple #[.int .i64 0, .bool false])∧Mod [] w w':=by
 unfold Qk at hA
 go_enter Tryz.func273,Tryz.ntmps273
 go_wp2_with (first|(go_at_call 291;refine hA.mono ?_;rintro e W1 ⟨rfl,hm⟩)|(go_at_call 60;refine(hw _).mono ?_;rintro e W2 ⟨rfl,rfl⟩))
 go_ret2
 exact⟨rfl,hm⟩
theorem zCD (q:ByteArray) (hq:(q.toList==s.toList)=false) (hA:Qk s n w) (hw: ∀W,Calls Tryz.prog 60 #[.int .i64 n, .int .i64 lo, .int .i64 hi] W fun e w'=>e= .returned (.bool true)∧w'=W)
  (hI: ∀W1,Mod [] w W1→Calls Tryz.prog 255 #[.int .i64 n] W1 fun e w'=>e= .returned (.string q)∧Mod [] w w'):
  Calls Tryz.prog 273 #[.string s, .int .i64 lo, .int .i64 hi] w fun e w'=>e= .returned (.tuple #[.int .i64 0, .bool false])∧Mod [] w w':=by
 unfold Qk at hA
 go_enter Tryz.func273,Tryz.ntmps273
 go_wp2_with (first|(go_at_call 291;refine hA.mono ?_;rintro e W1 ⟨rfl,hm⟩)|(go_at_call 60;refine(hw _).mono ?_;rintro e W2 ⟨rfl,rfl⟩)|(go_at_call 255;refine(hI _ hm).mono ?_;rintro e W3 ⟨rfl,P4⟩))
 go_ret2
 exact⟨rfl,P4⟩
theorem zC6 (hA:Qk s n w) (hw: ∀W,Calls Tryz.prog 60 #[.int .i64 n, .int .i64 lo, .int .i64 hi] W fun e w'=>e= .returned (.bool true)∧w'=W)
  (hI: ∀W1,Mod [] w W1→Calls Tryz.prog 255 #[.int .i64 n] W1 fun e w'=>e= .returned (.string s)∧Mod [] w w'):
  Calls Tryz.prog 273 #[.string s, .int .i64 lo, .int .i64 hi] w fun e w'=>e= .returned (.tuple #[.int .i64 n, .bool true])∧Mod [] w w':=by
 unfold Qk at hA
 go_enter Tryz.func273,Tryz.ntmps273
 go_wp2_with (first|(go_at_call 291;refine hA.mono ?_;rintro e W1 ⟨rfl,hm⟩)|(go_at_call 60;refine(hw _).mono ?_;rintro e W2 ⟨rfl,rfl⟩)|(go_at_call 255;refine(hI _ hm).mono ?_;rintro e W3 ⟨rfl,P4⟩))
 go_ret2
 exact⟨rfl,P4⟩
end
theorem zCM (s:ByteArray) (lo hi:Int) (w:World) (hs:s.size≤281474976710656) (hN:FL.n≤w.heap.size) (hK:FL.K w):Calls Tryz.prog 273 #[.string s, .int .i64 lo, .int .i64 hi] w fun e w'=>e= .returned (.tuple #[.int .i64 (NF s.data.toList lo hi).1, .bool (NF s.data.toList lo hi).2])∧Mod [] w w':=by
 by_cases Az: ∃n,Lib.atoiAll s.data.toList= .ok n
 ·obtain⟨n,hA⟩:=Az;have hR:NF s.data.toList lo hi=if lo≤n∧n≤hi∧Lib.itoa n=s.data.toList then(n,true)else(0,false):=by
   unfold NF;rw [hA]
  rw [hR];obtain⟨b0,b1⟩:=Lib.atoiAll_bounds hA;have dK:Calls Tryz.prog 291 #[.string s] w fun e w'=>e= .returned (.tuple #[.int .i64 n, .nilIface])∧Mod [] w w':=by
   refine(Tryz.strconv_Atoi_ok s (by omega) n hA w).mono ?_;rintro e w' ⟨rfl,h|⟨t,h⟩⟩
   ·subst h;exact⟨rfl,Mod.refl _ _⟩
   ·subst h;exact⟨rfl,zDS w _ t⟩
  have hI: ∀W1,Mod [] w W1→Calls Tryz.prog 255 #[.int .i64 n] W1 fun e w'=>e= .returned (.string ⟨(Lib.itoa n).toArray⟩)∧Mod [] w w':=by intro W1 hm;have dP:FL.K W1:=FL.mono (fun b hb=>hm.block b (Nat.lt_of_lt_of_le hb hN) (by simp)) hK;refine(Tryz.strconv_Itoa n b0 b1 W1 (uU dP)).mono ?_;rintro e w' ⟨rfl,k,os,rfl⟩;exact⟨rfl,hm.trans (wM W1 k os) (by simp)⟩
  by_cases h1:n≥lo∧n≤hi
  ·have hw: ∀W,Calls Tryz.prog 60 #[.int .i64 n, .int .i64 lo, .int .i64 hi] W fun e w'=>e= .returned (.bool true)∧w'=W:=fun W=>by
    have:=vW n lo hi W;rwa [show(decide (n≥lo)&&decide (n≤hi))=true by simp [h1.1,h1.2]]at this
   by_cases h3:Lib.itoa n=s.data.toList
   ·have Gl:(⟨(Lib.itoa n).toArray⟩:ByteArray)=s:=by rw [h3]
    rw [Gl]at hI;simp only [if_pos (⟨h1.1,h1.2,h3⟩:lo≤n∧n≤hi∧Lib.itoa n=s.data.toList)];exact zC6 s n lo hi w dK hw hI
   ·have Gl:((⟨(Lib.itoa n).toArray⟩:ByteArray).toList==s.toList)=false:=by
     rw [zpt,beq_eq_false_iff_ne];exact h3
    simp only [if_neg (fun h:lo≤n∧n≤hi∧Lib.itoa n=s.data.toList=>h3 h.2.2)];exact zCD s n lo hi w _ Gl dK hw hI
  ·have hw: ∀W,Calls Tryz.prog 60 #[.int .i64 n, .int .i64 lo, .int .i64 hi] W fun e w'=>e= .returned (.bool false)∧w'=W:=fun W=>by
    have:=vW n lo hi W;rwa [show(decide (n≥lo)&&decide (n≤hi))=false by simp;omega]at this
   simp only [if_neg (fun h:lo≤n∧n≤hi∧Lib.itoa n=s.data.toList=>h1 ⟨h.1,h.2.1⟩)];exact zEz s n lo hi w dK hw
 ·have hR:NF s.data.toList lo hi=(0,false):=by
   unfold NF;split
   ·rename_i n hn;exact absurd ⟨n,hn⟩ Az
   ·rfl
  rw [hR];exact zC7 (zFo hs hK fun v hv=>Az ⟨v,hv⟩)
noncomputable def ZK (s:List UInt8) (lo hi:Int):Option (Int × Bool):=AD (s.length≤281474976710656) (some (NF s lo hi))
theorem zuv (a0:List UInt8) (a1 a2:Int) (r:Int × Bool) (h:ZK a0 a1 a2=some r):Ck Tryz.prog Cj 273 [.str a0, .int .i64 a1, .int .i64 a2] (.tup [.int .i64 r.1, .bool r.2]):=by
 obtain⟨hl,h⟩:=Gw h;refine zF4 (by kernel_rfl) fun w vs rf hN hK hr=> ?_;obtain⟨s,us,rfl,hs,hz,hr⟩:=L3 hr;obtain⟨us1,rfl,_,hr⟩:=Wz hr;obtain⟨us2,rfl,_,hr⟩:=Wz hr;obtain⟨rfl,rfl⟩:=LW hr;subst hs;cases h;refine(zCM s a1 a2 w (by simpa using hl) hN hK).mono ?_;rintro e w' ⟨rfl,hm⟩;refine⟨hm,_,_, [], [],rfl, .int ?_ .nil, .bool .nil,by simp⟩;unfold NF;split
 ·rename_i n hn;have:=Lib.atoiAll_bounds hn;split
  ·exact A9 this.1 this.2
  ·exact A9 (by decide) (by decide)
 ·exact A9 (by decide) (by decide)
end Go.Proofs.YtfdfahjmonlbiaaGreatDoor
end

/- Parts of a proof, joined: DA, DB, MA, MB, OB, OG, QA, QO, MC, MD, QT, TF, QL, HB, SP, HL, IA, IC, ID, IE, IF, IG, IB, CM, SS. -/
import Derived.Test.YtalagilebkaegaaGreatJ6
import Derived.Test.YtalagilebkaegaaGreatProg
import Derived.Test.YtalagilebkaegaaGreatChecked
import Derived.Shelf.Small.Bits
import Derived.Shelf.Small.Strs
import Derived.Shelf.Small.Wraps
import Derived.Shelf.Strconv.Itoa0
import Derived.Shelf.Strings.Search1
import Derived.Shelf.Sort.Plain
import Derived.Ground.Names2Prog
import Derived.Shelf.Slices.CompactI
import Derived.Shelf.Slices.CompactS
import Derived.Shelf.Slices.Cells
import Derived.Shelf.Slices.In.SortNone
import Derived.Laws.CopyRow
import Derived.Lib.AppendZerosOnto
import Derived.Lib.Overlaps
import Derived.Lib.SliceRun
import Derived.Lib.SlicesDelete
import Derived.Shelf.RegionOpenPlain
import Derived.Deep.RegionLaw
import Derived.Lib.RowBridge
set_option linter.unusedVariables false
set_option linter.unusedSimpArgs false
section
namespace Go.Proofs.YtalagilebkaegaaGreat
open Go.RowKit
noncomputable def qH(t:TypeId):List Bool:=(A9 Tryz.prog t).map λu=>match CT Tryz.prog u with|some e=>Cc Tryz.prog e|none=>false
noncomputable def uO(u:TypeId):List Bool:=if u=77 then []else qH u
noncomputable def zG4(fn:Func):G7:={b8:=fn.params.toList.map λt=>match KH Tryz.prog t with|some u=> .bx (uO u) (uO u)|none=> .ro,res:=fn.resultTypes.toList.flatMap qH}
noncomputable def zGc(f:Nat):Option G7:=
 match f with
 |5=>some {b8:=[],res:=[false],dp:=true}
 |6=>some {b8:=[],res:=[false],dp:=true}
 |8=>some {b8:=[],res:=[]}
 |9=>some {b8:=[.ro, .ro],res:=[true,true,true,true,false],dp:=true}
 |10=>some {b8:=[.ro, .ro],res:=[]}
 |15=>some {b8:=[],res:=[]}
 |16=>some {b8:=[.ro, .ro],res:=[true,true,true,false],dp:=true}
 |19=>some {b8:=[.ro],res:=[true,true,true,false],dp:=true}
 |21=>some {b8:=[],res:=[]}
 |22=>some {b8:=[.ro],res:=[]}
 |23=>some {b8:=[],res:=[]}
 |26=>some {b8:=[],res:=[true,true,true],dp:=true}
 |29=>some {b8:=[.mu [true,true,true], .ro],res:=[],dp:=true}
 |35=>some {b8:=[.mu [true], .ro],res:=[]}
 |36=>some {b8:=[.mu [true], .ro],res:=[]}
 |38=>some {b8:=[.bx [] []],res:=[]}
 |39=>some {b8:=[.ro],res:=[true,true,true],dp:=true}
 |40=>some {b8:=[.ro, .ro],res:=[true,true,true,false],dp:=true}
 |42=>some {b8:=[.ro, .ro],res:=[]}
 |57=>some {b8:=[.ro, .ro],res:=[true,true,false,false],sh:=true}
 |63=>some {b8:=[.ro, .ro],res:=[true,true,true,false],dp:=true}
 |64=>some {b8:=[.ro, .ro, .ro],res:=[true,true,true,false],dp:=true}
 |65=>some {b8:=[],res:=[]}
 |66=>some {b8:=[.ro],res:=[true,true,false],sh:=true}
 |67=>some {b8:=[.ro, .ro],res:=[]}
 |68=>some {b8:=[.ro, .ro],res:=[]}
 |75=>some {b8:=[],res:=[true],dp:=true}
 |76=>some {b8:=[],res:=[true],dp:=true}
 |80=>some {b8:=[.mu [true], .ro],res:=[]}
 |81=>some {b8:=[.mu [true], .ro],res:=[],dp:=true}
 |82=>some {b8:=[.mu [true], .ro],res:=[],dp:=true}
 |88=>some {b8:=[.bx [] []],res:=[]}
 |92=>some {b8:=[.ro],res:=[false,true,true,true],dp:=true}
 |96=>some {b8:=[.ro, .ro, .ro],res:=[true,true,true,false],dp:=true}
 |97=>some {b8:=[.ro, .ro, .ro],res:=[true,true,true,false],dp:=true}
 |103=>some {b8:=[.ro],res:=[]}
 |120=>some {b8:=[.ro, .ro],res:=[]}
 |127=>some {b8:=[.ro, .ro, .ro],res:=[true,true,true,false],dp:=true}
 |132=>some {b8:=[.ro, .ro],res:=[]}
 |133=>some {b8:=[.ro, .ro],res:=[]}
 |136=>some {b8:=[],res:=[false,true,true,true],dp:=true}
 |141=>some {b8:=[.mu [true], .ro],res:=[],dp:=true}
 |142=>some {b8:=[.mu [true], .ro],res:=[],dp:=true}
 |143=>some {b8:=[.mu [true], .ro],res:=[]}
 |144=>some {b8:=[.mu [true], .ro],res:=[]}
 |151=>some {b8:=[.ro, .ro],res:=[]}
 |154=>some {b8:=[.ro],res:=[true],dp:=true}
 |172=>some {b8:=[.va [true]],res:=[true]}
 |177=>some {b8:=[.ro],res:=[]}
 |185=>some {b8:=[.bx [] []],res:=[]}
 |191=>some {b8:=[.ro, .ro],res:=[]}
 |193=>some {b8:=[.ro, .ro],res:=[false,true,true,true,false],dp:=true}
 |195=>some {b8:=[.ro],res:=[true],dp:=true}
 |197=>some {b8:=[.ro, .ro],res:=[]}
 |203=>some {b8:=[],res:=[true],dp:=true}
 |204=>some {b8:=[],res:=[true],dp:=true}
 |211=>some {b8:=[.mu [true], .ro],res:=[]}
 |218=>some {b8:=[.va [true], .ro],res:=[true],wn:=true}
 |220=>some {b8:=[.va [true], .ro],res:=[true],wn:=true}
 |228=>some {b8:=[.mu [true]],res:=[]}
 |229=>some {b8:=[.va [true]],res:=[true]}
 |240=>some {b8:=[.ro],res:=[]}
 |247=>some {b8:=[.ro, .ro, .ro],res:=[true,false],dp:=true,wn:=true}
 |250=>some {b8:=[.ro, .ro],res:=[false,true,true,true,false],dp:=true}
 |252=>some {b8:=[.va [true], .ro, .va [true]],res:=[true]}
 |269=>some {b8:=[.mu [true], .ro, .ro, .ro],res:=[]}
 |279=>some {b8:=[.bx [] []],res:=[]}
 |280=>some {b8:=[.ro, .ro, .ro],res:=[true,false],dp:=true}
 |281=>some {b8:=[.va [true], .ro, .ro],res:=[true]}
 |282=>some {b8:=[.va [true], .ro, .va [true]],res:=[true]}
 |284=>some {b8:=[.ro],res:=[true],sh:=true}
 |291=>some {b8:=[.mu [true], .ro, .ro],res:=[]}
 |292=>some {b8:=[.mu [true], .ro, .ro],res:=[]}
 |293=>some {b8:=[.mu [true], .ro, .ro],res:=[]}
 |294=>some {b8:=[.mu [true], .ro, .ro],res:=[]}
 |295=>some {b8:=[.mu [true], .ro, .ro],res:=[]}
 |296=>some {b8:=[.mu [true], .ro, .ro],res:=[]}
 |298=>some {b8:=[.mu [true], .ro, .ro, .ro],res:=[]}
 |299=>some {b8:=[.mu [true], .ro, .ro, .ro],res:=[]}
 |306=>some {b8:=[.va [true], .ro, .va [true]],res:=[true]}
 |313=>some {b8:=[.mu [true], .ro, .ro, .ro],res:=[]}
 |316=>some {b8:=[.mu [true], .ro, .bx [false] [false]],res:=[]}
 |317=>some {b8:=[.mu [true], .ro, .ro, .ro, .bx [false] [false]],res:=[]}
 |323=>some {b8:=[.mu [true], .ro, .ro, .bx [false] [false]],res:=[]}
 |325=>some {b8:=[.mu [true]],res:=[]}
 |_=>none
noncomputable def uY(f:Nat):Option G7:=match Tryz.prog.funcs[f]? with
 |some fn=>some ((zGc f).getD (zG4 fn))
 |none=>none
noncomputable def B5:B1:={f:=uY}
theorem zGw:Tryz.prog.follows .mixedOrders=true:=by kernel_rfl
theorem zHC:Tryz.prog.funcs.size<1000000:=by
 have:(decide (Tryz.prog.funcs.size<1000000))=true:=by kernel_rfl
 exact of_decide_eq_true this
theorem KW(f:Nat)(s:G7)(h:B5 f=some s):f<1000000:=by
 simp only[B5]at h;unfold uY at h;split at h
 ·rename_i fn hf;have:=(Array.getElem?_eq_some_iff.1 hf).1;exact Nat.lt_trans this zHC
 ·cases h
def XA(P:Program)(sg:B1)(f:Nat)(xs:List AV)(r:AV):Bool:=
 match P.funcs[f]?,sg f with
 |some fn,some s=> !(fn.name== "runtime.NumGoroutine")&&Ny P fn s r&&xs.length==fn.params.size+fn.nfree
 |_,_=>false
abbrev Den(t:Tr)(r:AV)(xs:List AV):Prop:=t.den (Cm Tryz.prog B5) (λr'=>r'=r) (λ_ _ _ _=>False) [] xs
theorem G0{f:Nat}{t:Tr}{xs:List AV}{r:AV}(hc:UL Tryz.prog B5 f=some t)(hk:XA Tryz.prog B5 f xs r=true)(hd:Den t r xs):Cm Tryz.prog B5 f xs r:=by
 unfold XA at hk;split at hk
 ·rename_i fn s hf hs;simp only[Ab,Bg,AM]at hk;unfold Cm;rw[if_pos (KW f s hs)];exact⟨s,hs,zDb zGw KW hf hs hk.1.1 hc hk.1.2 hk.2 hd⟩
 ·cases hk
section
variable {Rt:Nat->List AV->AV->Prop} {R:AV->Prop} {L:LK} {js:List JK} {ρ:List AV}
theorem zxL{i:EL}{b k:Tr}(hL:Kw L)(I:Nat->List AV->Prop){m:Nat}(h0:I m (i.den ρ))(Gq:∀m vs,I m vs->b.den Rt R L ((λus=> ∃m',m'<m/\I m' us)::(λus=>k.den Rt R L js (ρ++us))::js) (ρ++vs)):(Tr.loop i b k).den Rt R L js ρ:=by
 have hb:∀W W':JK,(∀vs,W vs->W' vs)-> ∀vs,b.den Rt R L (W::(λus=>k.den Rt R L js (ρ++us))::js) (ρ++vs)->b.den Rt R L (W'::(λus=>k.den Rt R L js (ρ++us))::js) (ρ++vs):=
  λW W' hW vs hv=>b.fg hL hv (.cons hW (Ef.refl _))
 have mono:∀n vs,Jl (λW vs=>b.den Rt R L (W::(λus=>k.den Rt R L js (ρ++us))::js) (ρ++vs)) n vs-> ∀n',n<=n'->Jl (λW vs=>b.den Rt R L (W::(λus=>k.den Rt R L js (ρ++us))::js) (ρ++vs)) n' vs:=by
  intro n
  induction n with
  |zero=>intro vs h;exact h.elim
  |succ n ih=>
   intro vs h n' hn;cases n' with
   |zero=>omega
   |succ n'=>exact hb _ _ (λus hu=>ih us hu n' (by omega)) vs h
 have key:∀m vs,I m vs->Jl (λW vs=>b.den Rt R L (W::(λus=>k.den Rt R L js (ρ++us))::js) (ρ++vs)) (m+1) vs:=by
  intro m
  induction m using Nat.strongRecOn with
  |_ m ih=>intro vs hI;exact hb _ _ (λus ⟨m',hm,hu⟩=>mono _ _ (ih m' hm us hu) m (by omega)) vs (Gq m vs hI)
 exact⟨m+1,key m _ h0⟩
theorem mN:Kw (λ_ _ _ _=>False):=λ_ _ _ _ _ _ h=>h
end
@[simp] theorem zHn(ρ:List AV):Bu ρ []↔True:=⟨λ_=>trivial,λ_=>E1 ρ⟩
@[simp] theorem zHa(ρ:List AV)(x:E)(b:Bool)(gs:Gd):Bu ρ ((x,b)::gs)↔x.den ρ= .bool b/\Bu ρ gs:=
 ⟨λh=>⟨h (x,b) (by simp),λg hg=>h g (by simp[hg])⟩,λh g hg=>by rcases Ae.1 hg with rfl|hg;exact h.1;exact h.2 g hg⟩
attribute [simp] E.den EL.den Cn.den AV.fld AV.proj AV.deref AV.len AV.slen AV.idx AV.nth AV.ek AV.ic AV.conv AV.bin AV.bbin AV.sbin AV.app AV.c7 AV.rep
@[simp] theorem zFC(cs:List AV):(AV.agg cs).cells=cs:=rfl
@[simp] theorem zGl(k:IntKind)(n:Int):(AV.int k n).cells=[.int k n]:=rfl
@[simp] theorem zFy(b:Bool):(AV.bool b).cells=[.bool b]:=rfl
@[simp] theorem zFG(s:List UInt8):(AV.str s).cells=[.str s]:=rfl
@[simp] theorem zGD(xs:List AV):(AV.sl xs).cells=[.sl xs]:=rfl
@[simp] theorem zFA(k:IntKind)(n:Int):(AV.int k n).scalar=true:=rfl
@[simp] theorem zFj(b:Bool):(AV.bool b).scalar=true:=rfl
@[simp] theorem zFw(s:List UInt8):(AV.str s).scalar=true:=rfl
@[simp] theorem zGT(b c d:Bool):AV.cond (.bool b) (.bool c) (.bool d)= .bool (bif b then c else d):=by cases b<;>rfl
theorem zwP{y:AV}(h:y.scalar=true):y.cells=[y]:=by cases y<;>first|rfl|simp[AV.scalar]at h
theorem CD{n:Int}(h1: -9223372036854775808<=n)(h2:n<=9223372036854775807):IntKind.i64.wrap n=n:=by rw[IntKind.wrap_i64];omega
end Go.Proofs.YtalagilebkaegaaGreat
end
section
namespace Go.Proofs.YtalagilebkaegaaGreat
open Go.RowKit
section
variable {Rt:Nat->List AV->AV->Prop} {R:AV->Prop} {L:LK} {js:List JK} {ρ:List AV}
theorem Dr{gs:Gd}{c:Cn}{k:Tr}(h:Bu ρ gs->c.den ρ)(hk:k.den Rt R L js ρ):(Tr.cc gs c k).den Rt R L js ρ:=⟨h,hk⟩
theorem oW{gs:Gd}{f:Nat}{args:EL}{k:Tr}{r:AV}(h:Bu ρ gs->Rt f (args.den ρ) r)(hk:k.den Rt R L js (ρ++ [r])):(Tr.call gs (.inl f) args k).den Rt R L js ρ:=⟨r,h,hk⟩
theorem nL{gs:Gd}{x:E}{args:EL}{k:Tr}{r:AV}(h:Bu ρ gs-> ∃g caps,x.den ρ= .fn g caps/\Rt (1000000+g) (args.den ρ++caps) r/\ ∀y∈r.cells,y.scalar=true)(hk:k.den Rt R L js (ρ++ [r])):(Tr.call gs (.inr x) args k).den Rt R L js ρ:=⟨r,h,hk⟩
theorem F1{c:E}{a b:Tr}{t:Bool}(h:c.den ρ= .bool t)(ha:t=true->a.den Rt R L js ρ)(hb:t=false->b.den Rt R L js ρ):(Tr.ite c a b).den Rt R L js ρ:=⟨t,h,ha,hb⟩
theorem Kp{r:E}(h:R (r.den ρ)):(Tr.ret r).den Rt R L js ρ:=h
theorem V1{es:EL}{j:JK}(h:j (es.den ρ)):(Tr.jmp 0 es).den Rt R L (j::js) ρ:=h
theorem oX{es:EL}{i j:JK}(h:j (es.den ρ)):(Tr.jmp 1 es).den Rt R L (i::j::js) ρ:=h
end
def sQ(cn:Nat)(xs:List AV):Prop:= ∀x∈xs,∃cs,x= .agg cs/\cs.length=cn
theorem sQ.at{cn:Nat}{xs:List AV}(h:sQ cn xs){q:Nat}(hq:q<xs.length):∃cs,xs[q]= .agg cs/\cs.length=cn:=h _ (AF hq)
section
variable {Rt:Nat->List AV->AV->Prop} {R:AV->Prop} {L:LK} {js:List JK} {ρ:List AV} {α β σ τ:Type}
theorem zF3{x:E}{sz:Nat}{xs:List α}(f:α->AV)(hx:x.den ρ= .sl (xs.map f))(hf:∀y,(f y).cells.length=sz):Cn.den ρ (.issl x sz):=⟨_,hx,by simp[hf]⟩
theorem zE7{x:E}{sz:Nat}{xs:List α}(f:α->AV)(hx:x.den ρ= .sl (xs.map f))(hf:∀y,(f y).cells.length=sz/\ ∀z∈(f y).cells,z.scalar=true):Cn.den ρ (.flatS x sz):=⟨_,hx,by simp only[List.mem_map];rintro _ ⟨y,_,rfl⟩;exact hf y⟩
end
@[simp] def Kv(n:Int):AV:= .int .i64 n
@[simp] def qG(b:Bool):AV:= .bool b
@[simp] def DH(x:List UInt8):AV:= .str x
attribute [simp] Cy S2 AV.sidx AV.aeq AV.leq AV.seq AV.sk AV.c9 AV.bytes AV.text
end Go.Proofs.YtalagilebkaegaaGreat
end
section
namespace Go.Proofs.YtalagilebkaegaaGreat
open Go.RowKit
section
variable {P:Program} {w:World}
theorem DO.gy{ts:List TypeId}{vs:List Value}{xs:List AV}{rf lf hs:List Nat}(h:DO P w ts [] [] vs xs rf lf hs):∀(ms:List PM) (lo:List Bool),(∀m∈ms,m= .ro)->DO P w ts ms lo vs xs rf lf hs:=by
 generalize hm:([]:List PM)=m0 at h;generalize hn:([]:List Bool)=n0 at h
 induction h with
 |nil=>intro ms lo _;exact .nil
 |lent h1 _ _ _ _=>subst hn;cases h1
 | @cons t ts ms' lo' v vs x xs f h rf lf hs Bf _ ih=>
  subst hm;subst hn;intro ms lo ER;refine .cons ?_ (ih rfl rfl ms.tail lo.tail λm hm=>ER m (List.mem_of_mem_tail hm));have:ms.headD .ro= .ro:=by cases ms with|nil=>rfl|cons m ms=>exact ER m (by simp)
  rw[this];exact Bf
 |free h1 _ ih=>subst hm;subst hn;intro ms lo ER;exact .free h1 (ih rfl rfl ms.tail lo.tail λm hm=>ER m (List.mem_of_mem_tail hm))
theorem DN.gy{ts:List TypeId}{ms:List PM}{vs:List Value}{Bs:List AV}{f o:List Nat}(h:DN P w ts ms vs Bs f o)(ER:∀m∈ms,m= .ro):DN P w ts [] vs Bs f o:=by
 have hd:∀{ms:List PM},(∀m∈ms,m= .ro)->ms.headD .ro= .ro:=by intro ms h;cases ms with|nil=>rfl|cons m ms=>exact h m (by simp)
 induction h with
 |nil=>exact .nil
 |ro _ _ ih=>exact .ro rfl (ih λm hm=>ER m (List.mem_of_mem_tail hm))
 |va h9 _ _=>rw[hd ER]at h9;cases h9
 |mu h9 _ _ _ _=>rw[hd ER]at h9;cases h9
 |bx h9 _ _ _ _ _ _ _ _=>rw[hd ER]at h9;cases h9
end
noncomputable def qF(f:Nat)(r:AV):Bool:=
 match Tryz.prog.funcs[f]?,B5 f with
 |some fn,some s=>s.b8.all (λm=>match m with| .ro=>true|_=>false)&&(s.ft.isEmpty&& !s.sh)&&(match(Dw fn s)with| [t]=> !F6 Tryz.prog t s.res|_=>false)&&Ny Tryz.prog fn {b8:=[],res:=[]} r
 |_,_=>false
theorem zAf{f:Nat}{xs:List AV}{r:AV}(h:Cm Tryz.prog B5 f xs r)(hp:qF f r=true):Cm Tryz.prog B5 (1000000+f) xs r:=by
 unfold qF at hp;split at hp
 ·rename_i fn s hf hs;simp only[Ab,Bl]at hp;obtain⟨⟨⟨h1,CA⟩,h2⟩,h3⟩:=hp;obtain⟨CA,eS⟩:s.ft=[]/\s.sh=false:=by simpa using CA
  have HX:Dw fn s=fn.resultTypes.toList:=by simp[Dw,eS]
  have eP:Dw fn {b8:=[],res:=[]}=fn.resultTypes.toList:=rfl;rw[HX]at h2;have Ly:∀m∈s.b8,m= .ro:=λm hm=>by
   have:=h1 m hm;split at this
   ·rfl
   ·cases this
  unfold Cm at h ⊢;rw[if_pos (KW f s hs)]at h;rw[if_neg (by omega),Nat.add_sub_cancel_left];obtain⟨s',A5,fn',TJ,hb,hn,_,hl,_,hc⟩:=h;rw[hs]at A5;cases A5;rw[hf]at TJ;cases TJ;rw[CA]at hc;refine⟨fn,hf,hb,hn,h3,hl,by simp,λw vs rf lf A5 Ah hd hd2 B8 D3=>(hc w vs rf lf A5 (Ah.gy _ _ Ly) hd hd2 B8 D3).mono ?_⟩;rintro e w' ⟨v,rfl,⟨R,Bs,f1,o1,f2,o2,e1,e2,e3,e4,e5,e6⟩,hm⟩;rw[CA]at e3;refine⟨v,rfl,⟨R,Bs,f1,o1,f2,o2,e1,?_,e3.gy Ly,e4,e5,e6⟩,hm⟩;rw[HX]at e2;rw[eP];unfold KJ at e2 ⊢;split at h2
  ·rename_i t ht;rw[ht]at e2 ⊢;simp only at e2 ⊢;unfold D7 at e2 ⊢;have h2:F6 Tryz.prog t s.res=false:=by simpa using h2
   rw[if_neg (by rw[h2];simp)]at e2;rw[if_neg (by simp[F6])];exact e2
  ·cases h2
 ·cases hp
section
variable {Rt:Nat->List AV->AV->Prop} {R:AV->Prop} {L:LK} {js:List JK} {ρ:List AV}
theorem zyG{i:EL}{b k:Tr}(hL:Kw L)(n:Nat)(st:Nat->List AV)(J:Nat->Prop)(hJ:J 0)(h0:i.den ρ=st 0)(hb:∀q,q<=n->J q-> ∀W:JK,(q<n->J (q+1)->W (st (q+1)))->b.den Rt R L (W::(λus=>k.den Rt R L js (ρ++us))::js) (ρ++st q)):(Tr.loop i b k).den Rt R L js ρ:=by refine zxL hL (λm vs=> ∃q,q+m=n/\vs=st q/\J q) (m:=n) ⟨0,by omega,h0,hJ⟩ ?_;rintro m vs ⟨q,hq,rfl,hj⟩;exact hb q (by omega) hj _ λAH Ox=>⟨m-1,by omega,q+1,by omega,rfl,Ox⟩
end
def S7(cn:Nat):Tr:=
 .cc [] (.dfd (.len (.var 0)))<|
 .loop (.cons (.int .i64 (0)) .nil) (
  .cc [] (.dfd (.bin .lss (.var 2) (.len (.var 0))))<|
  .ite (.bin .lss (.var 2) (.len (.var 0))) (
  .cc [] (.inb (.var 2) (.var 0) cn)<|
  .call [] (.inr (.var 1)) (.cons (.fld (.idx (.var 0) (.var 2)) 0 cn true) .nil)<|
  .ite (.var 3) (
   .ret (.var 2)) (
   .cc [] (.dfd (.bin .add (.var 2) (.int .i64 (1))))<|
   .jmp 0 (.cons (.bin .add (.var 2) (.int .i64 (1))) .nil))) (
  .jmp 1 .nil)) (
  .ret (.int .i64 (-1)))
def fQ:Tr:=
 .cc [] (.dfd (.len (.var 0)))<|
 .loop (.cons (.int .i64 (0)) .nil) (
  .cc [] (.dfd (.bin .lss (.var 2) (.len (.var 0))))<|
  .ite (.bin .lss (.var 2) (.len (.var 0))) (
  .cc [] (.inb (.var 2) (.var 0) 1)<|
  .call [] (.inr (.var 1)) (.cons (.fld (.idx (.var 0) (.var 2)) 0 1 false) .nil)<|
  .ite (.var 3) (
   .ret (.var 2)) (
   .cc [] (.dfd (.bin .add (.var 2) (.int .i64 (1))))<|
   .jmp 0 (.cons (.bin .add (.var 2) (.int .i64 (1))) .nil))) (
  .jmp 1 .nil)) (
  .ret (.int .i64 (-1)))
def Fg{α:Type}(p:α->Option Bool):List α->Int->Option Int
 | [],_=>some (-1)
 |x::xs,i=>(p x).bind λb=>if b=true then some i else Fg p xs (i+1)
noncomputable def Gv{α:Type}(xs:List α)(p:α->Option Bool):Option Int:=AK (xs.length<=9223372036854775806) (Fg p xs 0)
noncomputable def E0{α:Type}(xs:List α)(p:α->Option Bool):Option Bool:=(Gv xs p).bind λi=>some (decide (i>=0))
noncomputable def PG{α:Type}(bytes:Nat)(xs:List α):Option (List α):=AK ((xs.length:Int)*bytes<=140737488355328/\(xs.length:Int)<=140737488355328) (some xs)
theorem zS{α:Type}{p:α->Option Bool}{l:List α}{r:Int}{q:Nat}(hq:q<l.length)(h:Fg p (l.drop q) q=some r):∃b,p l[q]=some b/\(b=true->r=q)/\(b=false->Fg p (l.drop (q+1)) ((q+1:Nat):Int)=some r):=by
 rw[Bw hq]at h;obtain⟨b,hb,h⟩:=K6 h;refine⟨b,hb,?_,?_⟩
 ·rintro rfl;simpa using h.symm
 ·rintro rfl;simpa using h
theorem aW{α:Type}{av:α->AV}{l:List α}{p:α->Option Bool}{cn g:Nat}{caps:List AV}{r:Int}(hs:∀x,∃cs,av x= .agg cs/\cs.length=cn)(h:Gv l p=some r)(hf:∀x b,p x=some b->Cm Tryz.prog B5 (1000000+g) (av x::caps) (.bool b)):Den (S7 cn) (.int .i64 r) [.sl (l.map av), .fn g caps]:=by
 obtain⟨hn,h⟩:=F7 h;unfold Den S7;refine Dr (by simp) ?_;refine zyG mN l.length (λq=> [.int .i64 q]) (λq=>Fg p (l.drop q) q=some r) (by simpa using h) (by simp) λq hq hJ W hW=> ?_;by_cases AH:q<l.length
 ·obtain⟨cs,hc,hl⟩:=hs l[q];obtain⟨b,hb,Dy,F9⟩:=zS AH hJ;refine Dr (by simp[Cy]) (F1 (t:=true) (by simp[Cy,AH]) (λ_=> ?_) (by simp));refine Dr (λ_=>⟨.i64,q,l.length,by simp,by omega,by simp,by omega,by simp[AH,hc,hl]⟩) (nL (r:= .bool b) (λ_=>⟨g,caps,by simp,?_,by simp⟩) ?_)
  ·have:=hf l[q] b hb;rw[hc]at this;simpa[AH,hc,<-hl]using this
  ·cases b with
   |true=>exact F1 (t:=true) (by simp) (λ_=>Kp (by simp[Dy rfl])) (by simp)
   |false=>refine F1 (t:=false) (by simp) (by simp) λ_=>Dr (by simp[Cy]) (V1 ?_);have:=hW AH (F9 rfl);simpa[Cy,CD (n:=(q:Int)+1) (by omega) (by omega)]using this
 ·have I7:q=l.length:=by omega
  subst I7;have hr:r= -1:=by simpa[Fg]using hJ.symm
  refine Dr (by simp[Cy]) (F1 (t:=false) (by simp[Cy]) (by simp) λ_=>oX ?_);exact Kp (by simp[hr])
theorem zDt{α:Type}{av:α->AV}{l:List α}{p:α->Option Bool}{g:Nat}{caps:List AV}{r:Int}(hs:∀x,(av x).cells=[av x])(h:Gv l p=some r)(hf:∀x b,p x=some b->Cm Tryz.prog B5 (1000000+g) (av x::caps) (.bool b)):Den fQ (.int .i64 r) [.sl (l.map av), .fn g caps]:=by
 obtain⟨hn,h⟩:=F7 h;unfold Den fQ;refine Dr (by simp) ?_;refine zyG mN l.length (λq=> [.int .i64 q]) (λq=>Fg p (l.drop q) q=some r) (by simpa using h) (by simp) λq hq hJ W hW=> ?_;by_cases AH:q<l.length
 ·obtain⟨b,hb,Dy,F9⟩:=zS AH hJ;refine Dr (by simp[Cy]) (F1 (t:=true) (by simp[Cy,AH]) (λ_=> ?_) (by simp));refine Dr (λ_=>⟨.i64,q,l.length,by simp,by omega,by simp,by omega,by simp[AH,hs]⟩) (nL (r:= .bool b) (λ_=>⟨g,caps,by simp,?_,by simp⟩) ?_)
  ·have:=hf l[q] b hb;simpa[AH,hs]using this
  ·cases b with
   |true=>exact F1 (t:=true) (by simp) (λ_=>Kp (by simp[Dy rfl])) (by simp)
   |false=>refine F1 (t:=false) (by simp) (by simp) λ_=>Dr (by simp[Cy]) (V1 ?_);have:=hW AH (F9 rfl);simpa[Cy,CD (n:=(q:Int)+1) (by omega) (by omega)]using this
 ·have I7:q=l.length:=by omega
  subst I7;have hr:r= -1:=by simpa[Fg]using hJ.symm
  refine Dr (by simp[Cy]) (F1 (t:=false) (by simp[Cy]) (by simp) λ_=>oX ?_);exact Kp (by simp[hr])
def S6(f:Nat):Tr:=
 .call [] (.inl f) (.cons (.var 0) (.cons (.var 1) .nil))<|
 .cc [] (.dfd (.bin .geq (.var 2) (.int .i64 (0))))<|
 .ret (.bin .geq (.var 2) (.int .i64 (0)))
theorem aM{α:Type}{l:List α}{p:α->Option Bool}{f:Nat}{x y:AV}{r:Bool}(h:E0 l p=some r)(hf:∀i,Gv l p=some i->Cm Tryz.prog B5 f [x,y] (.int .i64 i)):Den (S6 f) (.bool r) [x,y]:=by obtain⟨i,hi,h⟩:=K6 h;unfold Den S6;refine oW (λ_=>by simpa using hf i hi) (Dr (by simp[Cy]) (Kp ?_));simp only[Ad]at h;simp[Cy,<-h]
def WJ(bytes sz:Nat):Tr:=
 .cc [] (.dfd (.len (.var 0)))<|
 .ca [] (.var 0)<|
 .ite (.var 1) (
  .ret (.lst .nil)) (
  .cc [] (.room (.lst .nil) (.var 0) bytes)<|
  .cc [] (.flatS (.var 0) sz)<|
  .ret (.app (.lst .nil) (.var 0)))
def pU(bytes sz:Nat):Tr:=
 .cc [] (.dfd (.len (.var 0)))<|
 .ca [] (.var 0)<|
 .ite (.var 1) (
  .ret (.lst .nil)) (
  .cc [] (.room (.lst .nil) (.var 0) bytes)<|
  .cc [] (.issl (.var 0) sz)<|
  .ret (.app (.lst .nil) (.var 0)))
theorem nV{α:Type}{av:α->AV}{xs r:List α}{bytes sz:Nat}(hs:∀x,(av x).cells.length=sz/\ ∀z∈(av x).cells,z.scalar=true)(h:PG bytes xs=some r):Den (WJ bytes sz) (.sl (r.map av)) [.sl (xs.map av)]:=by
 obtain⟨hq,h⟩:=F7 h;cases h;unfold Den WJ;refine Dr (by simp) λb hb=> ?_;cases b with
 |true=>have:=hb (by simp) rfl;exact F1 (t:=true) (by simp) (λ_=>Kp (by simpa using this.symm)) (by simp)
 |false=>exact F1 (t:=false) (by simp) (by simp) λ_=>Dr (λ_=>⟨0,xs.length,by simp,by simp,by simpa using hq.1,by simpa using hq.2⟩) (Dr (λ_=>zE7 (xs:=xs) av (by simp) hs) (Kp (by simp)))
theorem zzd{α:Type}{av:α->AV}{xs r:List α}{bytes sz:Nat}(hs:∀x,(av x).cells.length=sz)(h:PG bytes xs=some r):Den (pU bytes sz) (.sl (r.map av)) [.sl (xs.map av)]:=by
 obtain⟨hq,h⟩:=F7 h;cases h;unfold Den pU;refine Dr (by simp) λb hb=> ?_;cases b with
 |true=>have:=hb (by simp) rfl;exact F1 (t:=true) (by simp) (λ_=>Kp (by simpa using this.symm)) (by simp)
 |false=>exact F1 (t:=false) (by simp) (by simp) λ_=>Dr (λ_=>⟨0,xs.length,by simp,by simp,by simpa using hq.1,by simpa using hq.2⟩) (Dr (λ_=>zF3 (xs:=xs) av (by simp) hs) (Kp (by simp)))
end Go.Proofs.YtalagilebkaegaaGreat
end
section
namespace Go.Proofs.YtalagilebkaegaaGreat
open Go.ChangeShapes Go.WideShapes Go.ChangeAt Go.RowKit
theorem zCT{P:Program}{w:World}:DO P w [] [] [] [] [] [] [] []:= .nil
theorem zI{P:Program}{w:World}{t:TypeId}{ts:List TypeId}{v:Value}{vs:List Value}{x:AV}{xs:List AV}{f rf:List Nat}(h:Rd w [v] [x] f)(k:DO P w ts [] [] vs xs rf [] []):DO P w (t::ts) [] [] (v::vs) (x::xs) (f++rf) [] []:=
 DO.cons (h:=[]) (hs:=[]) (ms:=[]) (lo:=[]) ⟨h,rfl⟩ k
theorem zCY{P:Program}{sg:B1}{f:Nat}{fn:Func}{t:TypeId}{xs:List AV}(h:Cm P sg f xs (.bool true))(hf:f<1000000){s:G7}(hs:sg f=some s)(CA:s.ft=[])(Ly:∀m∈s.b8,m= .ro)(B7:F6 P t s.res=false)(Iu:P.funcs[f]?=some fn)(hr:(Dw fn s)=[t])
  {w:World} {vs:List Value} {rf:List Nat} (ha:DO P w fn.params.toList [] [] vs xs rf [] []) (D3:LF.n<=w.heap.size/\LF.K w):
  Calls P f vs.toArray w λe w'=>e= .returned (.bool true)/\Below w.heap.size w w':=by
 unfold Cm at h;rw[if_pos hf]at h;obtain⟨s',A5,fn',JE,_,_,_,_,_,hc⟩:=h;rw[hs]at A5;obtain rfl:=Option.some.inj A5;rw[Iu]at JE;obtain rfl:=Option.some.inj JE;refine(hc w vs rf [] [] (by rw[CA,AE];exact ha.gy _ _ Ly) (by simp) (by simp) (by simp) ⟨D3.1,D3.2,by simp⟩).mono λe w' ⟨v,he,hp⟩=> ?_;obtain⟨⟨R,bs,f1,o1,f2,o2,hR,AO,_⟩,hm⟩:=hp;have hRt:R= .bool true:=by
  cases bs with
  |nil=>exact hR.symm
  |cons=>cases hR
 subst hRt;rw[hr]at AO;have h2:D7 P w' t s.res v (.bool true) f1 o1:=AO;unfold D7 at h2;rw[B7]at h2;obtain⟨h3,_⟩:=h2;have:v= .bool true:=by cases h3;rfl
 subst this;exact⟨he,hm.below⟩
section
variable {P:Program} {t:TypeId} {Q:List AV->Prop} {H:Type} {enc:TypeId × Value->H} {w:World} {spare:Nat->Bool} {held:Bool} {v:Value} {d:DataW H} {p:List MemPlace} {r:Reach} {base:Nat}
theorem zEV(hO:CG P t Q)(hc:v.cells= #[v])(h:DataW.Trod enc P w 0 spare held t v d p):∃x f,Rd w [v] [x] f/\Q [x]:=by
 obtain⟨n,h⟩:=h;rw[hc]at h;obtain⟨_,_,xs,f,hr,hq⟩:=hO.2 _ _ _ _ _ _ _ _ h;have hl:=hr.len
 match xs,hl with
 | [x],_=>exact⟨x,f,hr,hq⟩
theorem zzh{fs:Array Field}(hO:CG P t Q)(ht:P.underlying t=some (.struct fs))(hv:Value.okWide P w r base t v)(h:DataW.Trod enc P w 0 spare held t v d p):∃xs f,Rd w [v] [.agg xs] f/\Q xs:=by obtain⟨n,h⟩:=h;obtain⟨cs,rfl,_⟩:=okWide_struct ht hv;obtain⟨_,h1,xs,f,hr,hq⟩:=hO.2 _ _ _ _ _ _ _ _ h;refine⟨xs,f++ [],?_,hq⟩;have:=Rd.agg (w:=w) h1 hr .nil;simpa[Value.cells]using this
theorem zz0{e:TypeId}(hO:CG P t Q)(ht:P.underlying t=some (.slice e))(hv:Value.okWide P w r base t v)(h:DataW.Trod enc P w 0 spare held t v d p):∃x f,Rd w [v] [x] f/\Q [x]:=by obtain⟨a,l,c,rfl⟩:=okWide_slice ht hv;exact zEV hO rfl h
end
theorem zGg{a b:Bool}(ha:a=true)(hb:b=true):(a&&b)=true:=by rw[ha,hb];rfl
def G1(n:Int):Prop:= -9223372036854775808<=n/\n<=9223372036854775807
def okB(_:Bool):Prop:=True
def Kz(s:List UInt8):Prop:=s.length<=9223372036854775807
def DB{α:Type}(ok:α->Prop)(l:List α):Prop:=l.length<=9223372036854775807/\ ∀x∈l,ok x
theorem zG0{n:Int}(h:E4 .i64 n):G1 n:=by unfold E4 at h;rw[IntKind.wrap_i64]at h;unfold G1;omega
section
variable {P:Program} {t e:TypeId} {α:Type} {ok:α->Prop} {av:α->AV}
theorem zG6(ht:P.underlying t=some (.int .i64))(hc:P.cellsOf t=1):CG P t λxs=> ∃n,G1 n/\xs=[Kv n]:=
 (zEy ht hc).mono λ_ ⟨n,h,e⟩=>⟨n,zG0 h,e⟩
theorem opB(ht:P.underlying t=some .bool)(hc:P.cellsOf t=1):CG P t λxs=> ∃b,okB b/\xs=[qG b]:=
 (zCv ht hc).mono λ_ ⟨b,e⟩=>⟨b,trivial,e⟩
theorem zHh(ht:P.underlying t=some .string)(hc:P.cellsOf t=1):CG P t λxs=> ∃s,Kz s/\xs=[DH s]:=
 (zzc ht hc).mono λ_ ⟨s,h,e⟩=>⟨s,h,e⟩
theorem zyv:∀{ys:List AV},(∀y∈ys,IY true (λxs=> ∃c,ok c/\ .agg xs=av c) y)-> ∃l:List α,(∀c∈l,ok c)/\ys=l.map av
 | [],_=>⟨[],by simp,rfl⟩
 |y::ys,h=>by obtain⟨l,hl,rfl⟩:=zyv λz hz=>h z (List.mem_cons_of_mem _ hz);have h0:=h y (List.mem_cons_self ..);simp only[IY,if_true]at h0;obtain⟨zs,rfl,c,hk,hc⟩:=h0;exact⟨c::l,by simpa using⟨hk,hl⟩,by simp[hc]⟩
theorem zyy:∀{ys:List AV},(∀y∈ys,IY false (λxs=> ∃c,ok c/\xs=[av c]) y)-> ∃l:List α,(∀c∈l,ok c)/\ys=l.map av
 | [],_=>⟨[],by simp,rfl⟩
 |y::ys,h=>by obtain⟨l,hl,rfl⟩:=zyy λz hz=>h z (List.mem_cons_of_mem _ hz);have h0:=h y (List.mem_cons_self ..);simp only[IY,AS,if_false]at h0;obtain⟨_,c,hk,hc⟩:=h0;exact⟨c::l,by simpa using⟨hk,hl⟩,by simp at hc;simp[hc]⟩
theorem NU(ht:P.underlying t=some (.slice e))(hc:P.cellsOf t=1)(he:CG P e λxs=> ∃c,ok c/\ .agg xs=av c):CG P t λxs=> ∃l:List α,DB ok l/\xs=[.sl (l.map av)]:=
 (zL true ht hc he (.inl rfl)).mono λ_ ⟨ys,hl,hy,e⟩=>by obtain⟨l,hk,rfl⟩:=zyv hy;exact⟨l,⟨by simpa using hl,hk⟩,e⟩
theorem zHb(ht:P.underlying t=some (.slice e))(hc:P.cellsOf t=1)(Mx:P.cellsOf e=1)(he:CG P e λxs=> ∃c,ok c/\xs=[av c]):CG P t λxs=> ∃l:List α,DB ok l/\xs=[.sl (l.map av)]:=
 (zL false ht hc he (.inr Mx)).mono λ_ ⟨ys,hl,hy,e⟩=>by obtain⟨l,hk,rfl⟩:=zyy hy;exact⟨l,⟨by simpa using hl,hk⟩,e⟩
end
end Go.Proofs.YtalagilebkaegaaGreat
end
section
namespace Go.Proofs.YtalagilebkaegaaGreat
open Go.RowKit
set_option maxRecDepth 100000
structure An where
 ah:List UInt8
 bh:List UInt8
 bg:Bool
@[simp] def SA(x:An):AV:= .agg [.str x.ah, .str x.bh, .bool x.bg]
structure Ay where
 ao:Int
 af:Int
 br:Int
 ak:List (List UInt8)
 ab:List An
@[simp] def bL(x:Ay):AV:= .agg [.int .i64 x.ao, .int .i64 x.af, .int .i64 x.br, .sl (x.ak.map DH), .sl (x.ab.map SA)]
structure Bj where
 ao:Int
 bm:Bool
 af:Int
@[simp] def bJ(x:Bj):AV:= .agg [.int .i64 x.ao, .bool x.bm, .int .i64 x.af]
structure BE where
 af:Int
 bh:List UInt8
 bg:Bool
@[simp] def Kx(x:BE):AV:= .agg [.int .i64 x.af, .str x.bh, .bool x.bg]
structure Aj where
 ah:List UInt8
 ay:List BE
@[simp] def DL(x:Aj):AV:= .agg [.str x.ah, .sl (x.ay.map Kx)]
structure Ai where
 au:Int
 aj:List Aj
 ae:List Ay
 aq:List Bj
@[simp] def aN(x:Ai):AV:= .agg [.int .i64 x.au, .sl (x.aj.map DL), .sl (x.ae.map bL), .sl (x.aq.map bJ)]
structure AG where
 ao:Int
 ak:List (List UInt8)
 ab:List An
@[simp] def aT(x:AG):AV:= .agg [.int .i64 x.ao, .sl (x.ak.map DH), .sl (x.ab.map SA)]
structure Ar where
 bb:List (List UInt8)
 aw:List Ai
 ar:List AG
@[simp] def fV(x:Ar):AV:= .agg [.sl (x.bb.map DH), .sl (x.aw.map aN), .sl (x.ar.map aT)]
structure BU where
 bc:Int
 ao:Int
 bp:Int
 af:Int
@[simp] def Z0(x:BU):AV:= .agg [.int .i64 x.bc, .int .i64 x.ao, .int .i64 x.bp, .int .i64 x.af]
structure Bv where
 bc:Int
 ao:Int
 af:Int
 br:Int
 ak:List (List UInt8)
 ab:List An
 bm:Bool
@[simp] def zG1(x:Bv):AV:= .agg [.int .i64 x.bc, .int .i64 x.ao, .int .i64 x.af, .int .i64 x.br, .sl (x.ak.map DH), .sl (x.ab.map SA), .bool x.bm]
end Go.Proofs.YtalagilebkaegaaGreat
end
section
namespace Go.Proofs.YtalagilebkaegaaGreat
open Go.ChangeShapes Go.WideShapes Go.ChangeAt Go.RowKit
set_option maxRecDepth 100000
theorem Uv:CG Tryz.prog 9 λxs=> ∃s,Kz s/\xs=[DH s]:=zHh Tryz.underlying9 (by kernel_rfl)
theorem fJ:CG Tryz.prog 24 λxs=> ∃l:List (List UInt8),DB Kz l/\xs=[.sl (l.map DH)]:=zHb Tryz.underlying24 (by kernel_rfl) (by kernel_rfl) Uv
theorem Jd:CG Tryz.prog 3 λxs=> ∃n,G1 n/\xs=[Kv n]:=zG6 Tryz.underlying3 (by kernel_rfl)
theorem gO:CG Tryz.prog 4 λxs=> ∃b,okB b/\xs=[qG b]:=opB Tryz.underlying4 (by kernel_rfl)
def UE(x:BE):Prop:=G1 x.af/\Kz x.bh/\okB x.bg
theorem op9:CG Tryz.prog 308 λxs=> ∃x:BE,UE x/\ .agg xs=Kx x:=
 (LU Tryz.underlying308 (by decide+kernel) (by kernel_rfl) (.cons Jd (.cons Uv (.cons gO .nil)))).mono λ_ ⟨_,_,e0,⟨x0,k0,h0⟩,_,_,e1,⟨x1,k1,h1⟩,_,_,e2,⟨x2,k2,h2⟩,hz⟩=>by subst h2 hz e2 h1 e1 h0 e0;exact⟨⟨x0,x1,x2⟩,⟨k0,k1,k2⟩,by simp⟩
theorem op8:CG Tryz.prog 261 λxs=> ∃l:List BE,DB UE l/\xs=[.sl (l.map Kx)]:=NU Tryz.underlying261 (by kernel_rfl) op9
def Wz(x:Aj):Prop:=Kz x.ah/\(DB UE) x.ay
theorem op7:CG Tryz.prog 263 λxs=> ∃x:Aj,Wz x/\ .agg xs=DL x:=
 (LU Tryz.underlying263 (by decide+kernel) (by kernel_rfl) (.cons Uv (.cons op8 .nil))).mono λ_ ⟨_,_,e0,⟨x0,k0,h0⟩,_,_,e1,⟨x1,k1,h1⟩,hz⟩=>by subst h1 hz e1 h0 e0;exact⟨⟨x0,x1⟩,⟨k0,k1⟩,by simp⟩
theorem op6:CG Tryz.prog 168 λxs=> ∃l:List Aj,DB Wz l/\xs=[.sl (l.map DL)]:=NU Tryz.underlying168 (by kernel_rfl) op7
def SI(x:An):Prop:=Kz x.ah/\Kz x.bh/\okB x.bg
theorem zHu:CG Tryz.prog 268 λxs=> ∃x:An,SI x/\ .agg xs=SA x:=
 (LU Tryz.underlying268 (by decide+kernel) (by kernel_rfl) (.cons Uv (.cons Uv (.cons gO .nil)))).mono λ_ ⟨_,_,e0,⟨x0,k0,h0⟩,_,_,e1,⟨x1,k1,h1⟩,_,_,e2,⟨x2,k2,h2⟩,hz⟩=>by subst h2 hz e2 h1 e1 h0 e0;exact⟨⟨x0,x1,x2⟩,⟨k0,k1,k2⟩,by simp⟩
theorem uX:CG Tryz.prog 174 λxs=> ∃l:List An,DB SI l/\xs=[.sl (l.map SA)]:=NU Tryz.underlying174 (by kernel_rfl) zHu
def WG(x:Ay):Prop:=G1 x.ao/\G1 x.af/\G1 x.br/\(DB Kz) x.ak/\(DB SI) x.ab
theorem zHs:CG Tryz.prog 266 λxs=> ∃x:Ay,WG x/\ .agg xs=bL x:=
 (LU Tryz.underlying266 (by decide+kernel) (by kernel_rfl) (.cons Jd (.cons Jd (.cons Jd (.cons fJ (.cons uX .nil)))))).mono λ_ ⟨_,_,e0,⟨x0,k0,h0⟩,_,_,e1,⟨x1,k1,h1⟩,_,_,e2,⟨x2,k2,h2⟩,_,_,e3,⟨x3,k3,h3⟩,_,_,e4,⟨x4,k4,h4⟩,hz⟩=>by subst h4 hz e4 h3 e3 h2 e2 h1 e1 h0 e0;exact⟨⟨x0,x1,x2,x3,x4⟩,⟨k0,k1,k2,k3,k4⟩,by simp⟩
theorem zHA:CG Tryz.prog 169 λxs=> ∃l:List Ay,DB WG l/\xs=[.sl (l.map bL)]:=NU Tryz.underlying169 (by kernel_rfl) zHs
def bC(x:Bj):Prop:=G1 x.ao/\okB x.bm/\G1 x.af
theorem zHv:CG Tryz.prog 272 λxs=> ∃x:Bj,bC x/\ .agg xs=bJ x:=
 (LU Tryz.underlying272 (by decide+kernel) (by kernel_rfl) (.cons Jd (.cons gO (.cons Jd .nil)))).mono λ_ ⟨_,_,e0,⟨x0,k0,h0⟩,_,_,e1,⟨x1,k1,h1⟩,_,_,e2,⟨x2,k2,h2⟩,hz⟩=>by subst h2 hz e2 h1 e1 h0 e0;exact⟨⟨x0,x1,x2⟩,⟨k0,k1,k2⟩,by simp⟩
theorem zHw:CG Tryz.prog 170 λxs=> ∃l:List Bj,DB bC l/\xs=[.sl (l.map bJ)]:=NU Tryz.underlying170 (by kernel_rfl) zHv
def Ws(x:Ai):Prop:=G1 x.au/\(DB Wz) x.aj/\(DB WG) x.ae/\(DB bC) x.aq
theorem op4:CG Tryz.prog 172 λxs=> ∃x:Ai,Ws x/\ .agg xs=aN x:=
 (LU Tryz.underlying172 (by decide+kernel) (by kernel_rfl) (.cons Jd (.cons op6 (.cons zHA (.cons zHw .nil))))).mono λ_ ⟨_,_,e0,⟨x0,k0,h0⟩,_,_,e1,⟨x1,k1,h1⟩,_,_,e2,⟨x2,k2,h2⟩,_,_,e3,⟨x3,k3,h3⟩,hz⟩=>by subst h3 hz e3 h2 e2 h1 e1 h0 e0;exact⟨⟨x0,x1,x2,x3⟩,⟨k0,k1,k2,k3⟩,by simp⟩
theorem op3:CG Tryz.prog 57 λxs=> ∃l:List Ai,DB Ws l/\xs=[.sl (l.map aN)]:=NU Tryz.underlying57 (by kernel_rfl) op4
def Wr(x:AG):Prop:=G1 x.ao/\(DB Kz) x.ak/\(DB SI) x.ab
theorem zHy:CG Tryz.prog 176 λxs=> ∃x:AG,Wr x/\ .agg xs=aT x:=
 (LU Tryz.underlying176 (by decide+kernel) (by kernel_rfl) (.cons Jd (.cons fJ (.cons uX .nil)))).mono λ_ ⟨_,_,e0,⟨x0,k0,h0⟩,_,_,e1,⟨x1,k1,h1⟩,_,_,e2,⟨x2,k2,h2⟩,hz⟩=>by subst h2 hz e2 h1 e1 h0 e0;exact⟨⟨x0,x1,x2⟩,⟨k0,k1,k2⟩,by simp⟩
theorem zHx:CG Tryz.prog 58 λxs=> ∃l:List AG,DB Wr l/\xs=[.sl (l.map aT)]:=NU Tryz.underlying58 (by kernel_rfl) zHy
def bD(x:Ar):Prop:=(DB Kz) x.bb/\(DB Ws) x.aw/\(DB Wr) x.ar
theorem op0:CG Tryz.prog 60 λxs=> ∃x:Ar,bD x/\ .agg xs=fV x:=
 (LU Tryz.underlying60 (by decide+kernel) (by kernel_rfl) (.cons fJ (.cons op3 (.cons zHx .nil)))).mono λ_ ⟨_,_,e0,⟨x0,k0,h0⟩,_,_,e1,⟨x1,k1,h1⟩,_,_,e2,⟨x2,k2,h2⟩,hz⟩=>by subst h2 hz e2 h1 e1 h0 e0;exact⟨⟨x0,x1,x2⟩,⟨k0,k1,k2⟩,by simp⟩
def VP(x:BU):Prop:=G1 x.bc/\G1 x.ao/\G1 x.bp/\G1 x.af
theorem zHz:CG Tryz.prog 61 λxs=> ∃x:BU,VP x/\ .agg xs=Z0 x:=
 (LU Tryz.underlying61 (by decide+kernel) (by kernel_rfl) (.cons Jd (.cons Jd (.cons Jd (.cons Jd .nil))))).mono λ_ ⟨_,_,e0,⟨x0,k0,h0⟩,_,_,e1,⟨x1,k1,h1⟩,_,_,e2,⟨x2,k2,h2⟩,_,_,e3,⟨x3,k3,h3⟩,hz⟩=>by subst h3 hz e3 h2 e2 h1 e1 h0 e0;exact⟨⟨x0,x1,x2,x3⟩,⟨k0,k1,k2,k3⟩,by simp⟩
theorem zHD:CG Tryz.prog 67 λxs=> ∃l:List BU,DB VP l/\xs=[.sl (l.map Z0)]:=NU Tryz.underlying67 (by kernel_rfl) zHz
end Go.Proofs.YtalagilebkaegaaGreat
end
section
namespace Go.Proofs.YtalagilebkaegaaGreat
open Go.RowKit
set_option maxRecDepth 100000
def KT{α:Type}(p:α->Option Bool):List α->Option (List α)
 | []=>some []
 |x::xs=>(p x).bind λb=>(KT p xs).bind λr=>some (if b=true then r else x::r)
noncomputable def Pp{α:Type}(xs:List α)(p:α->Option Bool):Option (List α):=AK (xs.length<=9223372036854775806) (KT p xs)
theorem mS{α:Type}{p:α->Option Bool}(q:α->Bool):∀{l:List α},(∀x∈l,p x=some (q x))->KT p l=some (l.filter λx=> !q x)
 | [],_=>rfl
 |x::l,h=>by have e:=mS (p:=p) q (l:=l) λy hy=>h y (List.mem_cons_of_mem _ hy);simp only[KT,h x (by simp),e,Aa,List.filter_cons];cases q x<;>rfl
theorem zvV{α:Type}{p:α->Option Bool}{l r:List α}{q:Nat}(hq:q<l.length)(h:KT p (l.drop q)=some r):∃b r',p l[q]=some b/\KT p (l.drop (q+1))=some r'/\r=if b=true then r' else l[q]::r':=by rw[Bw hq]at h;obtain⟨b,hb,h⟩:=K6 h;obtain⟨r',hr,h⟩:=K6 h;exact⟨b,r',hb,hr,by simpa using h.symm⟩
theorem xL{α:Type}{p:α->Option Bool}:∀{l r:List α} (i:Int),KT p l=some r->(Fg p l i=some (-1)/\r=l)\/ ∃k r',k<l.length/\Fg p l i=some (i+(k:Nat))/\KT p (l.drop (k+1))=some r'/\r=l.take k++r'
 | [],r,i,h=>by cases h;exact .inl ⟨rfl,rfl⟩
 |x::l,r,i,h=>by
  obtain⟨b,hb,h⟩:=K6 h;obtain⟨r1,hr,h⟩:=K6 h;cases b with
  |true=>
   have:r1=r:=by simpa using h
   subst this;exact .inr ⟨0,r1,by simp,by simp[Fg,hb],by simpa using hr,by simp⟩
  |false=>
   have:r=x::r1:=by simpa using h.symm
   subst this;rcases xL (i+1) hr with⟨h1,rfl⟩|⟨k,r',h1,h2,h3,rfl⟩
   ·exact .inl ⟨by simp[Fg,hb,h1],rfl⟩
   ·exact .inr ⟨k+1,r',by simp;omega,by simp[Fg,hb,h2];omega,by simpa using h3,by simp⟩
def uN(ck:List Cn)(k:Tr):Tr:=ck.foldr (λc k=> .cc [] c k) k
section
variable {Rt:Nat->List AV->AV->Prop} {R:AV->Prop} {L:LK} {js:List JK} {ρ:List AV}
theorem zyD:∀{ck:List Cn} {k:Tr},(∀c∈ck,c.den ρ)->k.den Rt R L js ρ->(uN ck k).den Rt R L js ρ
 | [],_,_,hk=>hk
 |c::ck,k,h,hk=>⟨λ_=>h c (by simp),zyD (λq hq=>h q (by simp[hq])) hk⟩
theorem zCL{t k:Tr}{K:List AV->Prop}(hK:∀vs,K vs->k.den Rt R L js (ρ++vs))(ht:∀j:JK,(∀vs,K vs->j vs)->t.den Rt R L (j::js) ρ):(Tr.join t k).den Rt R L js ρ:=ht _ hK
end
def Xp(fi cn:Nat)(g:Bool)(X:E)(ck:List Cn)(z:E):Tr:=
 .call [] (.inl fi) (.cons (.var 0) (.cons (.var 1) .nil))<|
 .cc [] (.dfd (.bin .eql (.var 2) (.int .i64 (-1))))<|
 .ite (.bin .eql (.var 2) (.int .i64 (-1))) (
  .ret (.var 0)) (
  .cc [] (.dfd (.bin .add (.var 2) (.int .i64 (1))))<|
  .loop (.cons (.var 2) (.cons (.bin .add (.var 2) (.int .i64 (1))) (.cons (.var 0) .nil))) (
  .cc [] (.dfd (.len (.var 5)))<|
  .cc [] (.dfd (.bin .lss (.var 4) (.len (.var 5))))<|
  .ite (.bin .lss (.var 4) (.len (.var 5))) (
   .join (
   .cc [] (.inb (.var 4) (.var 5) cn)<|
   uN ck<|
   .call [] (.inr (.var 1)) (.cons X .nil)<|
   .cc [] (.dfd (.not (.var 6)))<|
   .ite (.not (.var 6)) (
    .cc [] (.inb (.var 3) (.var 5) cn)<|
    .cc [] (.flat X cn g)<|
    .cc [] (.flat (.fld (.idx (.var 5) (.var 3)) 0 cn g) cn g)<|
    .cc [] (.dfd (.bin .add (.var 3) (.int .i64 (1))))<|
    .jmp 0 (.cons (.bin .add (.var 3) (.int .i64 (1))) (.cons (.set (.var 5) (.var 3) (.put (.idx (.var 5) (.var 3)) 0 X g)) .nil))) (
    .jmp 0 (.cons (.var 3) (.cons (.var 5) .nil)))) (
   .cc [] (.dfd (.bin .add (.var 4) (.int .i64 (1))))<|
   .jmp 0 (.cons (.var 6) (.cons (.bin .add (.var 4) (.int .i64 (1))) (.cons (.var 7) .nil))))) (
   .jmp 1 (.cons (.var 3) (.cons (.var 5) .nil)))) (
  .cc [] (.win (.var 4) (.var 3) (.len (.var 4)))<|
  .cc [] (.win (.var 4) (.var 3) (.len (.var 4)))<|
  .cc [] (.dfd (.bin .sub (.len (.var 4)) (.var 3)))<|
  .cc [] (.win (.app (.win (.var 4) (.int .i64 (0)) (.var 3)) (.rep (.bin .sub (.len (.var 4)) (.var 3)) z)) (.int .i64 (0)) (.var 3))<|
  .ret (.win (.app (.win (.var 4) (.int .i64 (0)) (.var 3)) (.rep (.bin .sub (.len (.var 4)) (.var 3)) z)) (.int .i64 (0)) (.var 3))))
theorem zzV{α:Type}{av:α->AV}{l r:List α}{p:α->Option Bool}{fi cn g9:Nat}{g:Bool}{X z:E}{ck:List Cn}{caps:List AV}
  (hs:∀x,(av x).cells.length=cn/\(∀z∈(av x).cells,z.scalar=true)/\(g=true-> ∃cs,av x= .agg cs)/\(g=false->(av x).scalar=true)) (hcn:0<cn)
  (hX:∀(a b c d:AV) (j:Nat) (ys:List AV) (x:α) (tl:List AV),ys[j]?=some (av x)->X.den ([a,b,c,d, .int .i64 j, .sl ys]++tl)=av x)
  (Is:∀(a b c d:AV) (j:Nat) (ys:List AV) (x:α),ys[j]?=some (av x)-> ∀q∈ck,q.den [a,b,c,d, .int .i64 j, .sl ys])
  (h:Pp l p=some r) (hi:∀i,Gv l p=some i->Cm Tryz.prog B5 fi [.sl (l.map av), .fn g9 caps] (.int .i64 i))
  (hf:∀x b,p x=some b->Cm Tryz.prog B5 (1000000+g9) (av x::caps) (.bool b)):Den (Xp fi cn g X ck z) (.sl (r.map av)) [.sl (l.map av), .fn g9 caps]:=by
 obtain⟨hn,h⟩:=F7 h;unfold Den Xp;have Lw:∀x y:α,(av y).c9 0 (av x) g=av x:=by
  intro x y;cases g with
  |false=>rfl
  |true=>
   obtain⟨cs,By⟩:=(hs x).2.2.1 rfl;have e1:=(hs x).1;have e2:=(hs y).1;have e3:(av x).cells=cs:=by rw[By];rfl
   have e4:(av y).cells.drop (0+cs.length)=[]:=List.drop_eq_nil_of_le (by rw[e2,<-e1,e3];omega);show AV.agg ((av y).cells.take 0++(av x).cells++(av y).cells.drop (0+(av x).cells.length))=av x;rw[e3,e4,AE,List.take_zero,List.nil_append,By]
 have cS:∀x:α,(av x).fld 0 cn g=av x:=by
  intro x;cases g with
  |false=>have:=zwP ((hs x).2.2.2 rfl);simp[AV.fld,this]
  |true=>obtain⟨cs,By⟩:=(hs x).2.2.1 rfl;have e1:=(hs x).1;rw[By]at e1 ⊢;simp only[AV.fld,if_true,AV.cells]at e1 ⊢;rw[List.drop_zero,List.take_of_length_le (by omega)]
 have B4:∀(e:E) (ρ:List AV) (x:α),e.den ρ=av x->Cn.den ρ (.flat e cn g):=λe ρ x he=>by
  show(e.den ρ).cells.length=cn/\(∀y∈(e.den ρ).cells,y.scalar=true)/\(g=true-> ∃cs,e.den ρ= .agg cs)/\(g=false->(e.den ρ).scalar=true)
  rw[he];exact hs x
 rcases xL 0 h with⟨h1,rfl⟩|⟨k0,r0,Qc,h1,h2,rfl⟩
 ·refine oW (r:= .int .i64 (-1)) (λ_=>hi _ (by unfold Gv;rw[show AK (r.length<=9223372036854775806) (Fg p r 0)=Fg p r 0 from if_pos hn];exact h1)) ?_;exact Dr (by simp[Cy]) (F1 (t:=true) (by simp[Cy]) (λ_=>Kp (by simp)) (by simp))
 ·refine oW (r:= .int .i64 k0) (λ_=>hi _ (by unfold Gv;rw[show AK (l.length<=9223372036854775806) (Fg p l 0)=Fg p l 0 from if_pos hn,h1];simp)) ?_;have hw:IntKind.i64.wrap ((k0:Int)+1)=k0+1:=CD (by omega) (by omega);refine Dr (by simp[Cy]) (F1 (t:=false) (by simp[Cy];try omega) (by simp) λ_=>Dr (by simp[Cy]) ?_);refine zxL mN (λm vs=> ∃(j:Nat) (K zs r':List α),j+m=l.length/\vs=[.int .i64 K.length, .int .i64 j, .sl (zs.map av)]/\K.length<j/\zs.length=l.length/\zs.take K.length=K/\zs.drop j=l.drop j/\KT p (l.drop j)=some r'/\l.take k0++r0=K++r') (m:=l.length-(k0+1))
   ⟨k0+1,l.take k0,l,r0,by omega,?_,by simp;omega,rfl,by simp[Nat.min_eq_left (Nat.le_of_lt Qc)],rfl,h2,rfl⟩ ?_
  ·simp[Cy,hw,Nat.min_eq_left (Nat.le_of_lt Qc)]
  rintro m vs ⟨j,K,zs,r',hj,rfl,hKj,Uq,Ur,fF,CB,AO⟩;refine Dr (by simp) (Dr (by simp[Cy]) ?_);by_cases AH:j<l.length
  ·refine F1 (t:=true) (by simp[Cy,Uq,AH]) (λ_=> ?_) (by simp);obtain⟨b,r2,hb,DV,rW⟩:=zvV AH CB;have sD:zs[j]?=some l[j]:=by
    have:=congrArg (λL=>L[0]?) fF;simpa[AH]using this
   have GU:(zs.map av)[j]?=some (av l[j]):=by simp[sD]
   have Tl:K.length<zs.length:=by omega
   have hwj:IntKind.i64.wrap ((j:Int)+1)=j+1:=CD (by omega) (by omega);have hwK:IntKind.i64.wrap ((K.length:Int)+1)=K.length+1:=CD (by omega) (by omega);refine zCL (K:=λus=> ∃(K' zs':List α),us=[.int .i64 K'.length, .sl (zs'.map av)]/\K'.length<j+1/\zs'.length=l.length/\zs'.take K'.length=K'/\zs'.drop (j+1)=l.drop (j+1)/\l.take k0++r0=K'++r2) ?_ ?_
   ·rintro us ⟨K',zs',rfl,a1,a2,a3,a4,a5⟩;refine Dr (by simp[Cy]) (V1 ⟨m-1,by omega,j+1,K',zs',r2,by omega,?_,a1,a2,a3,a4,DV,a5⟩);simp[Cy,hwj]
   ·intro J hJ;refine Dr (λ_=>⟨.i64,j,zs.length,by simp,by omega,by simp,by omega,?_⟩) (zyD (Is _ _ _ _ j (zs.map av) _ GU) (nL (r:= .bool b) (λ_=>⟨g9,caps,by simp,?_,by simp⟩) ?_))
    ·simp[AV.nth,sD,(hs l[j]).1]
    ·have e1:=hX (.sl (l.map av)) (.fn g9 caps) (.int .i64 k0) (.int .i64 K.length) j (zs.map av) l[j] [] GU;rw[AE]at e1;show Cm Tryz.prog B5 (1000000+g9) ([X.den [.sl (l.map av), .fn g9 caps, .int .i64 k0, .int .i64 K.length, .int .i64 j, .sl (zs.map av)]]++caps) (.bool b);rw[e1];exact hf _ _ hb
    ·refine Dr (by simp) ?_;have e2:=hX (.sl (l.map av)) (.fn g9 caps) (.int .i64 k0) (.int .i64 K.length) j (zs.map av) l[j] [.bool b] GU;cases b with
     |true=>refine F1 (t:=false) (by simp) (by simp) λ_=>V1 (hJ _ ⟨K,zs,by simp,by omega,Uq,Ur,?_,by rw[AO,rW];simp⟩);have:=congrArg (List.drop 1) fF;simpa[List.drop_drop]using this
     |false=>
      refine F1 (t:=true) (by simp) (λ_=> ?_) (by simp);obtain⟨zk,Us⟩:∃zk,zs[K.length]?=some zk:=⟨zs[K.length],by simp[Tl]⟩
      have e3:(E.idx (.var 5) (.var 3)).den ([AV.sl (l.map av), .fn g9 caps, .int .i64 k0, .int .i64 K.length, .int .i64 j, .sl (zs.map av)]++ [.bool false])=av zk:=by simp[AV.nth,Us]
      refine Dr (λ_=>⟨.i64,K.length,zs.length,by simp,by omega,by simp,by omega,?_⟩) (Dr (λ_=>B4 _ _ _ e2) (Dr (λ_=>B4 _ _ zk ?_) (Dr (by simp[Cy]) (V1 (hJ _ ⟨K++ [l[j]],zs.set K.length l[j],?_,by simp;omega,by simpa using Uq,?_,?_,by rw[AO,rW];simp⟩)))))
      ·simp[AV.nth,Us,(hs zk).1]
      ·exact(congrArg (λy=>AV.fld y 0 cn g) e3).trans (cS zk)
      ·have e4:(E.set (.var 5) (.var 3) (.put (.idx (.var 5) (.var 3)) 0 X g)).den ([AV.sl (l.map av), .fn g9 caps, .int .i64 k0, .int .i64 K.length, .int .i64 j, .sl (zs.map av)]++ [.bool false])= .sl ((zs.set K.length l[j]).map av):=by
        show AV.c7 _ _ (AV.c9 ((E.idx (.var 5) (.var 3)).den _) 0 (X.den _) g)=_;rw[e3,e2,Lw];simp[AV.c7,List.map_set]
       show EL.den _ (.cons (.bin .add (.var 3) (.int .i64 1)) (.cons (.set (.var 5) (.var 3) (.put (.idx (.var 5) (.var 3)) 0 X g)) .nil))=_;simp only[EL.den];have e5:(E.bin .add (.var 3) (.int .i64 1)).den ([AV.sl (l.map av), .fn g9 caps, .int .i64 k0, .int .i64 K.length, .int .i64 j, .sl (zs.map av)]++ [.bool false])= .int .i64 ((K++ [l[j]]).length:Int):=by simp[Cy,hwK]
       congr 1;congr 1
      ·rw[AP,Bd,List.take_add_one,List.take_set_of_le (AJ _),Ur];simp[Tl]
      ·rw[List.drop_set_of_lt (by omega)];have:=congrArg (List.drop 1) fF;simpa[List.drop_drop]using this
  ·have hje:j=l.length:=by omega
   subst hje;refine F1 (t:=false) (by simp[Cy,Uq]) (by simp) λ_=>oX ?_;have I8:r'=[]:=by rw[List.drop_eq_nil_of_le (AJ _)]at CB;exact(by simpa[KT]using CB.symm)
   subst I8;rw[AO,AE];have Uo:IntKind.i64.wrap ((zs.length:Int)-K.length)=zs.length-K.length:=CD (by omega) (by omega);have d3:(E.var 3).den ([AV.sl (l.map av),AV.fn g9 caps]++ [AV.int .i64 (k0:Int)]++ [AV.int .i64 (K.length:Int),AV.sl (zs.map av)])= .int .i64 K.length:=by simp
   have d4:(E.var 4).den ([AV.sl (l.map av),AV.fn g9 caps]++ [AV.int .i64 (k0:Int)]++ [AV.int .i64 (K.length:Int),AV.sl (zs.map av)])= .sl (zs.map av):=by simp
   have dm:(E.bin .sub (.len (.var 4)) (.var 3)).den ([AV.sl (l.map av),AV.fn g9 caps]++ [AV.int .i64 (k0:Int)]++ [AV.int .i64 (K.length:Int),AV.sl (zs.map av)])= .int .i64 ((zs.length:Int)-K.length):=by simp[Cy,Uo]
   have ID:Cn.den ([AV.sl (l.map av),AV.fn g9 caps]++ [AV.int .i64 (k0:Int)]++ [AV.int .i64 (K.length:Int),AV.sl (zs.map av)]) (.win (.var 4) (.var 3) (.len (.var 4))):=⟨.i64,K.length, .i64,zs.length,zs.length,d3,by simp,by rw[d4];simp,by omega,by omega,by omega⟩
   have dapp:(E.app (.win (.var 4) (.int .i64 (0)) (.var 3)) (.rep (.bin .sub (.len (.var 4)) (.var 3)) z)).den ([AV.sl (l.map av),AV.fn g9 caps]++ [AV.int .i64 (k0:Int)]++ [AV.int .i64 (K.length:Int),AV.sl (zs.map av)])= .sl ((zs.map av).take K.length++List.replicate (zs.length-K.length) (z.den ([AV.sl (l.map av),AV.fn g9 caps]++ [AV.int .i64 (k0:Int)]++ [AV.int .i64 (K.length:Int),AV.sl (zs.map av)]))):=by show AV.app (AV.win ((E.var 4).den _) (.int .i64 0) ((E.var 3).den _)) (AV.rep ((E.bin .sub (.len (.var 4)) (.var 3)).den _) _)=_;rw[d3,d4,dm];simp only[AV.win,AV.rep,AV.app,Bi,Int.toNat_zero,List.drop_zero];congr 3;omega
   refine Dr (λ_=>ID) (Dr (λ_=>ID) (Dr (λ_=>λhu=>by have:=dm.symm.trans hu;simp at this) (Dr (λ_=>⟨.i64,0, .i64,K.length,zs.length,rfl,d3,?_,by omega,by omega,by omega⟩) (Kp ?_))))
   ·refine(congrArg AV.len dapp).trans ?_;simp only[AV.len,AP,Aw,List.length_map,List.length_replicate];congr 1;omega
   ·refine(congrArg (λy=>AV.win y (.int .i64 0) (.int .i64 K.length)) dapp).trans ?_;simp only[AV.win,Bi,Int.toNat_zero,List.drop_zero];rw[List.take_append_of_le_length (by simp;omega),List.take_take,Nat.min_self,<-List.map_take,Ur]
abbrev RtS:Nat->List AV->AV->Prop:=Cm Tryz.prog B5
@[reducible] def Qq:Nat->Type
 |0=>An
 |1=>Ay
 |2=>Bj
 |3=>BE
 |4=>Aj
 |5=>Ai
 |6=>AG
 |7=>Ar
 |8=>BU
 |9=>Bv
 |_+10=>Unit
@[reducible] def XG:Nat->List Ty
 |0=> [.s, .s, .b]
 |1=> [.i .i64, .i .i64, .i .i64, .l .s, .l (.st 0)]
 |2=> [.i .i64, .b, .i .i64]
 |3=> [.i .i64, .s, .b]
 |4=> [.s, .l (.st 3)]
 |5=> [.i .i64, .l (.st 4), .l (.st 1), .l (.st 2)]
 |6=> [.i .i64, .l .s, .l (.st 0)]
 |7=> [.l .s, .l (.st 5), .l (.st 6)]
 |8=> [.i .i64, .i .i64, .i .i64, .i .i64]
 |9=> [.i .i64, .i .i64, .i .i64, .i .i64, .l .s, .l (.st 0), .b]
 |_+10=> []
def OV:∀n,Qq n->AV
 |0,x=>SA x
 |1,x=>bL x
 |2,x=>bJ x
 |3,x=>Kx x
 |4,x=>DL x
 |5,x=>aN x
 |6,x=>aT x
 |7,x=>fV x
 |8,x=>Z0 x
 |9,x=>zG1 x
 |_+10,_=> .agg []
def gQ:∀n,Qq n->HL Qq (XG n)
 |0,x=>(x.ah,x.bh,x.bg,())
 |1,x=>(x.ao,x.af,x.br,x.ak,x.ab,())
 |2,x=>(x.ao,x.bm,x.af,())
 |3,x=>(x.af,x.bh,x.bg,())
 |4,x=>(x.ah,x.ay,())
 |5,x=>(x.au,x.aj,x.ae,x.aq,())
 |6,x=>(x.ao,x.ak,x.ab,())
 |7,x=>(x.bb,x.aw,x.ar,())
 |8,x=>(x.bc,x.ao,x.bp,x.af,())
 |9,x=>(x.bc,x.ao,x.af,x.br,x.ak,x.ab,x.bm,())
 |_+10,_=>()
def sI:∀n,HL Qq (XG n)->Qq n
 |0,x=>⟨x.1,x.2.1,x.2.2.1⟩
 |1,x=>⟨x.1,x.2.1,x.2.2.1,x.2.2.2.1,x.2.2.2.2.1⟩
 |2,x=>⟨x.1,x.2.1,x.2.2.1⟩
 |3,x=>⟨x.1,x.2.1,x.2.2.1⟩
 |4,x=>⟨x.1,x.2.1⟩
 |5,x=>⟨x.1,x.2.1,x.2.2.1,x.2.2.2.1⟩
 |6,x=>⟨x.1,x.2.1,x.2.2.1⟩
 |7,x=>⟨x.1,x.2.1,x.2.2.1⟩
 |8,x=>⟨x.1,x.2.1,x.2.2.1,x.2.2.2.1⟩
 |9,x=>⟨x.1,x.2.1,x.2.2.1,x.2.2.2.1,x.2.2.2.2.1,x.2.2.2.2.2.1,x.2.2.2.2.2.2.1⟩
 |_+10,_=>()
theorem zFP:∀n x,OV n x= .agg (Ij OV (XG n) (gQ n x))
 |0,_=>rfl
 |1,_=>rfl
 |2,_=>rfl
 |3,_=>rfl
 |4,_=>rfl
 |5,_=>rfl
 |6,_=>rfl
 |7,_=>rfl
 |8,_=>rfl
 |9,_=>rfl
 |_+10,_=>rfl
theorem zEC:∀n h,gQ n (sI n h)=h
 |0,_=>rfl
 |1,_=>rfl
 |2,_=>rfl
 |3,_=>rfl
 |4,_=>rfl
 |5,_=>rfl
 |6,_=>rfl
 |7,_=>rfl
 |8,_=>rfl
 |9,_=>rfl
 |_+10,_=>rfl
@[reducible] def C6:IZ:=⟨RtS,Qq,OV,XG,gQ,sI,zFP,zEC⟩
abbrev FS:=FN C6
noncomputable def fL(tb:List FS)(hs:List JM)(o:Option Tr)(ps:List PT)(r:RT)(xs:HP C6.car ps)(hp:IX C6 ps xs):Option (Im C6.car r):=match o with
 |some t=>CE tb 100000 (Qm r) t hs (Xm ps xs hp) [] []
 |none=>none
theorem zGO{f:Nat}{ps:List PT}{r:RT}{φ:HP C6.car ps->Option (Im C6.car r)}(tb:List FS)(hs:List JM)(h:∀xs hp,fL tb hs (UL Tryz.prog B5 f) ps r xs hp=φ xs)(hk:∀xs y,XA Tryz.prog B5 f (F5 C6 ps xs) (GF C6 r y)=true)(xs:HP C6.car ps)(y:Im C6.car r)(hp:IX C6 ps xs)(e:φ xs=some y):C6.Rt f (F5 C6 ps xs) (GF C6 r y):=by
 rw[<-h xs hp]at e;unfold fL at e;split at e
 ·rename_i t ht;refine G0 ht (hk xs y) ?_;unfold Den;rw[<-sU ps xs hp];exact E3 tb 100000 (fa:=[]) (λ_ h=>nomatch h) (λ_ h=>nomatch h) (λv hv=>pQ r hv) .nil e
 ·cases e
noncomputable def Ak(f:Nat)(ps:List PT)(r:RT)(φ:HP C6.car ps->Option (Im C6.car r))(tb:List FS)(hs:List JM)(h:∀xs hp,fL tb hs (UL Tryz.prog B5 f) ps r xs hp=φ xs:=by intro _ _;kernel_rfl)(hk:∀xs y,XA Tryz.prog B5 f (F5 C6 ps xs) (GF C6 r y)=true:=by intro _ _;kernel_rfl):FS:=
 ⟨f,ps,r,φ,λxs y hp e=>zGO tb hs h hk xs y hp e,false,λh=>by cases h⟩
noncomputable def HZ(d:FS)(h:∀y,qF d.f (GF C6 d.r y)=true):FS:=
 ⟨d.f,d.ps,d.r,d.φ,d.ok,true,λ_ xs y hx e=>zAf (d.ok xs y hx e) (h y)⟩
noncomputable def Ey(f:Nat)(ps:List PT)(r:RT)(φ:HP C6.car ps->Option (Im C6.car r))(ok:∀xs y,IX C6 ps xs->φ xs=some y->C6.Rt f (F5 C6 ps xs) (GF C6 r y)):FS:=⟨f,ps,r,φ,ok,false,λh=>by cases h⟩
abbrev RM(s k:Int):Prop:=s*k<=140737488355328/\s<=140737488355328
noncomputable def UN{α:Type}(f:α->Option α)(a0:List α)(v1:Int)(v2:List α):Option ((Int × List α) ⊕ Option (List α)):=
 if(decide (v1<(a0.length:Int)))then
  (Am a0 v1).bind λy3=>
  (f y3).bind λv4=>
  (Am v2 v1).bind λ_=>
  some (.inl ((IntKind.i64.wrap (v1+1)),(v2.set (v1).toNat v4)))
 else
  some (.inr (some v2))
noncomputable def toL{α:Type}(f:α->Option α)(d:α)(b:Int)(a0:List α):Option (List α):=
 AK (0<=(a0.length:Int)/\(a0.length:Int)*b<=140737488355328/\(a0.length:Int)<=140737488355328)<|
 Au (λs:Int × List α=>UN f a0 s.1 s.2) (0,(List.replicate ((a0.length:Int)).toNat d))
noncomputable def UP{α:Type}(f:α->α->Option Bool)(a0 a1:List α)(v1:Int):Option ((Int) ⊕ Option (Bool)):=
 if(decide (v1<(a0.length:Int)))then
  (Am a0 v1).bind λy2=>
  (Am a1 v1).bind λy3=>
  (f y2 y3).bind λv4=>
  if(!v4)then
   some (.inr (some false))
  else
   some (.inl (IntKind.i64.wrap (v1+1)))
 else
  some (.inr (some true))
noncomputable def KA{α:Type}(f:α->α->Option Bool)(a0 a1:List α):Option Bool:=
 if((a0.length:Int) !=(a1.length:Int))then
  some false
 else
  Au (λs:Int=>UP f a0 a1 s) 0
noncomputable def Qx{α:Type}(f:α->Int->Option Int)(a0:List α)(v1 v2:Int):Option ((Int × Int) ⊕ Option (Int)):=
 if(decide (v2<(a0.length:Int)))then
  (Am a0 v2).bind λy3=>
  (f y3 v1).bind λv4=>
  if(decide (v4<0))then
   some (.inr (some (-1)))
  else
   some (.inl (v4,(IntKind.i64.wrap (v2+1))))
 else
  some (.inr (some v1))
noncomputable def Nb{α:Type}(f:α->Int->Option Int)(a0:List α)(a1:Int):Option (Int):=
 if(decide ((IntKind.i64.wrap (a1-(a0.length:Int)))<0))then
  some (-1)
 else
  Au (λs:Int × Int=>Qx f a0 s.1 s.2) ((IntKind.i64.wrap (a1-(a0.length:Int))),0)
end Go.Proofs.YtalagilebkaegaaGreat
end
section
namespace Go.Proofs.YtalagilebkaegaaGreat
open Go.RowKit
theorem DO.rd{P:Program}{w:World}{ts:List TypeId}{ms:List PM}{lo:List Bool}{vs:List Value}{xs:List AV}{rf lf hs:List Nat}(h:DO P w ts ms lo vs xs rf lf hs):lo=[]->(∀m∈ms,m= .ro)->Rd w vs xs rf/\hs=[]:=by
 induction h with
 |nil=>intro _ _;exact⟨.nil,rfl⟩
 |lent h1 _ _ _ _=>intro B2;subst B2;cases h1
 | @cons t ts ms lo v vs x xs f h rf lf hs Bf _ ih=>
  intro B2 ER;subst B2;obtain⟨h1,rfl⟩:=ih rfl λm hm=>ER m (List.mem_of_mem_tail hm);have Ly:ms.headD .ro= .ro:=by
   cases ms with
   |nil=>rfl
   |cons m ms=>exact ER m (by simp)
  rw[Ly]at Bf;obtain⟨h2,h3⟩:Rd w [v] [x] f/\h=[]:=Bf;subst h3;exact⟨by simpa using h2.app h1,rfl⟩
 |free h1 _ ih=>intro B2 ER;subst B2;obtain⟨h2,rfl⟩:=ih rfl λm hm=>ER m (List.mem_of_mem_tail hm);exact⟨by simpa using h1.app h2,rfl⟩
theorem DN.im{P:Program}{w:World}:∀{ts:List TypeId} {ms:List PM} {vs:List Value},vs.length=ts.length->(∀m∈ms,m= .ro)->DN P w ts ms vs [] [] []
 | [],_,vs,_,_=> .nil
 |t::ts,ms,[],h,_=>by simp at h
 |t::ts,ms,v::vs,h,ER=>by
  refine .ro ?_ (DN.im (by simpa using h) λm hm=>ER m (List.mem_of_mem_tail hm));cases ms with
  |nil=>rfl
  |cons m ms=>exact ER m (by simp)
def gN(P:Program)(sg:B1)(f np:Nat)(r:AV):Bool:=
 match P.funcs[f]?,sg f with
 |some fn,some s=>fn.body.isSome&& !(fn.name== "runtime.NumGoroutine")&&Ny P fn s r&&s.b8.all (λm=>match m with| .ro=>true|_=>false)&&fn.params.size==np&&fn.nfree==0&&(s.ft.isEmpty&&s.lo.isEmpty)&&(match(Dw fn s)with| [t]=> !F6 P t s.res|_=>false)
 |_,_=>false
theorem zCM{f:Nat}{xs:List AV}{r:AV}(hk:gN Tryz.prog B5 f xs.length r=true)(hc:∀(w:World) (vs:List Value) (rf:List Nat),LF.K w->Rd w vs xs rf->Calls Tryz.prog f vs.toArray w λe w'=>Mod [] w w'/\ ∃v f1,e= .returned v/\Rd w' [v] [r] f1/\ ∀b∈f1,b∈rf\/w.heap.size<=b):Cm Tryz.prog B5 f xs r:=by
 unfold gN at hk;split at hk
 ·rename_i fn s hf hs;simp only[Ab,Bg,AM,Bl]at hk;obtain⟨⟨⟨⟨⟨⟨⟨h1,h2⟩,h3⟩,h4⟩,h5⟩,h6⟩,CA⟩,h7⟩:=hk;obtain⟨CA,B2⟩:s.ft=[]/\s.lo=[]:=by simpa using CA
  have Ly:∀m∈s.b8,m= .ro:=λm hm=>by
   have:=h4 m hm;split at this
   ·rfl
   ·cases this
  unfold Cm;rw[if_pos (KW f s hs)];refine⟨s,hs,fn,hf,h1,h2,h3,by omega,by simp[CA],λw vs rf lf A5 Ah hd _ B8 D3=> ?_⟩;obtain⟨hr,rfl⟩:=Ah.rd B2 Ly;refine(hc w vs rf D3.2.1 hr).mono ?_;rintro e w' ⟨hm,v,f1,rfl,hv,hb⟩;refine⟨v,rfl,⟨⟨r,[],f1,[],[],[],rfl,?_,DN.im ?_ Ly,by simp,by simp,λb Cb=>⟨by simp,?_⟩⟩,hm⟩⟩
  ·unfold KJ;split at h7
   ·rename_i t ht;rw[ht];show D7 Tryz.prog w' t s.res v r f1 [];unfold D7;rw[if_neg (by rw[Bool.not_eq_true];simpa using h7)];exact⟨hv,rfl⟩
   ·cases h7
  ·rw[hr.len];simp[CA];omega
  ·rcases hb b (by simpa using Cb)with h|h
   ·exact .inl h
   ·exact .inr (.inr h)
 ·cases hk
theorem zEr{f:Nat}{xs:List AV}{r:AV}(hk:gN Tryz.prog B5 f xs.length r=true)(hc:∀(w:World) (vs:List Value) (rf:List Nat),Rd w vs xs rf->Calls Tryz.prog f vs.toArray w λe w'=>Mod [] w w'/\ ∃v f1,e= .returned v/\Rd w' [v] [r] f1/\ ∀b∈f1,b∈rf\/w.heap.size<=b):Cm Tryz.prog B5 f xs r:=
 zCM hk λw vs rf _ hr=>hc w vs rf hr
theorem fS{w:World}{s:List UInt8}{vs:List Value}{xs:List AV}{f:List Nat}(h:Rd w vs (.str s::xs) f):∃(b:ByteArray) (us:List Value),vs= .string b::us/\b.data.toList=s/\b.size<=9223372036854775807/\Rd w us xs f:=by
 cases h with
 |str a h=>exact⟨_,_,rfl,rfl,a,h⟩
theorem SS{w:World}{k:IntKind}{n:Int}{vs:List Value}{xs:List AV}{f:List Nat}(h:Rd w vs (.int k n::xs) f):∃us:List Value,vs= .int k n::us/\E4 k n/\Rd w us xs f:=by
 cases h with
 |int a h=>exact⟨_,rfl,a,h⟩
theorem PI{w:World}{vs:List Value}{f:List Nat}(h:Rd w vs [] f):vs=[]/\f=[]:=by cases h;exact⟨rfl,rfl⟩
end Go.Proofs.YtalagilebkaegaaGreat
end
section
namespace Go.Proofs
open Go.Shelf
def Tryz.j9:Go.Shelf.Ren:=⟨λ|137=>272|217=>302|266=>318|n=>n,λ|9=>9|5=>5|3=>3|n=>n,λ|n=>n⟩
def Tryz.fw:Go.Shelf.Ren:=⟨λ|217=>302|266=>318|n=>n,λ|9=>9|5=>5|3=>3|n=>n,λ|n=>n⟩
theorem Tryz.jq:Go.Proofs.Lays.n217 Tryz.prog Tryz.fw:={
 mixed:=by kernel_rfl
 f217:=Tryz.func302.trans (congrArg some (by kernel_rfl))
 f266:=Tryz.func318.trans (congrArg some (by kernel_rfl))
 t3:=Tryz.underlying3
 a3:=Tryz.isAgg3
 z3:=Tryz.sizeOf3
 v3:=Tryz.zeroValue3
 t5:=Tryz.underlying5
 a5:=Tryz.isAgg5
 z5:=Tryz.sizeOf5
 v5:=Tryz.zeroValue5
 t9:=Tryz.underlying9
 a9:=Tryz.isAgg9
 z9:=Tryz.sizeOf9
 v9:=Tryz.zeroValue9}
open Go.RowKit Go.Lib in
theorem Tryz.stringslite_IndexByte(s:ByteArray)(c:Int)(w:World):
  Calls Tryz.prog 302 #[.string s, .int .u8 c] w λe w'=>e= .returned (.int .i64 (Lib.indexByte s.data.toList c.toNat.toUInt8))/\w'=w:=Any.stringslite_IndexByte Tryz.jq s c w
def Tryz.gi:Go.Shelf.Ren:=⟨λ|190=>228|125=>270|258=>269|128=>300|129=>301|302=>291|303=>292|304=>293|305=>294|306=>295|307=>296|308=>297|309=>298|310=>299|333=>313|329=>314|330=>315|334=>316|335=>317|336=>278|344=>323|n=>n,λ|31=>24|9=>9|3=>3|46=>215|0=>0|51=>301|53=>75|4=>4|183=>295|182=>294|131=>100|5=>5|218=>311|222=>315|228=>319|229=>320|n=>n,λ|n=>n⟩
theorem Tryz.ia:Go.Proofs.Lays.n190 Tryz.prog Tryz.gi:={
 mixed:=by kernel_rfl
 f125:=Tryz.func270.trans (congrArg some (by kernel_rfl))
 f128:=Tryz.func300.trans (congrArg some (by kernel_rfl))
 f129:=Tryz.func301.trans (congrArg some (by kernel_rfl))
 f190:=Tryz.func228.trans (congrArg some (by kernel_rfl))
 f258:=Tryz.func269.trans (congrArg some (by kernel_rfl))
 f302:=Tryz.func291.trans (congrArg some (by kernel_rfl))
 f303:=Tryz.func292.trans (congrArg some (by kernel_rfl))
 f304:=Tryz.func293.trans (congrArg some (by kernel_rfl))
 f305:=Tryz.func294.trans (congrArg some (by kernel_rfl))
 f306:=Tryz.func295.trans (congrArg some (by kernel_rfl))
 f307:=Tryz.func296.trans (congrArg some (by kernel_rfl))
 f308:=Tryz.func297.trans (congrArg some (by kernel_rfl))
 f309:=Tryz.func298.trans (congrArg some (by kernel_rfl))
 f310:=Tryz.func299.trans (congrArg some (by kernel_rfl))
 f329:=Tryz.func314.trans (congrArg some (by kernel_rfl))
 f330:=Tryz.func315.trans (congrArg some (by kernel_rfl))
 f333:=Tryz.func313.trans (congrArg some (by kernel_rfl))
 f334:=Tryz.func316.trans (congrArg some (by kernel_rfl))
 f335:=Tryz.func317.trans (congrArg some (by kernel_rfl))
 f336:=Tryz.func278.trans (congrArg some (by kernel_rfl))
 f344:=Tryz.func323.trans (congrArg some (by kernel_rfl))
 t0:=Tryz.underlying0
 a0:=Tryz.isAgg0
 z0:=Tryz.sizeOf0
 v0:=Tryz.zeroValue0
 t3:=Tryz.underlying3
 a3:=Tryz.isAgg3
 z3:=Tryz.sizeOf3
 v3:=Tryz.zeroValue3
 t4:=Tryz.underlying4
 a4:=Tryz.isAgg4
 z4:=Tryz.sizeOf4
 v4:=Tryz.zeroValue4
 t5:=Tryz.underlying5
 a5:=Tryz.isAgg5
 z5:=Tryz.sizeOf5
 v5:=Tryz.zeroValue5
 t9:=Tryz.underlying9
 a9:=Tryz.isAgg9
 z9:=Tryz.sizeOf9
 v9:=Tryz.zeroValue9
 t31:=Tryz.underlying24
 a31:=Tryz.isAgg24
 z31:=Tryz.sizeOf24
 v31:=Tryz.zeroValue24
 t46:=Tryz.underlying215
 a46:=Tryz.isAgg215
 z46:=Tryz.sizeOf215
 v46:=Tryz.zeroValue215
 t51:=Tryz.underlying301
 a51:=Tryz.isAgg301
 z51:=Tryz.sizeOf301
 v51:=Tryz.zeroValue301
 t53:=Tryz.underlying75
 a53:=Tryz.isAgg75
 z53:=Tryz.sizeOf75
 v53:=Tryz.zeroValue75
 t131:=Tryz.underlying100
 a131:=Tryz.isAgg100
 z131:=Tryz.sizeOf100
 v131:=Tryz.zeroValue100
 t182:=Tryz.underlying294
 a182:=Tryz.isAgg294
 z182:=Tryz.sizeOf294
 v182:=Tryz.zeroValue294
 t183:=Tryz.underlying295
 a183:=Tryz.isAgg295
 z183:=Tryz.sizeOf295
 v183:=Tryz.zeroValue295
 t218:=Tryz.underlying311
 a218:=Tryz.isAgg311
 z218:=Tryz.sizeOf311
 v218:=Tryz.zeroValue311
 t222:=Tryz.underlying315
 a222:=Tryz.isAgg315
 z222:=Tryz.sizeOf315
 v222:=Tryz.zeroValue315
 t228:=Tryz.underlying319
 a228:=Tryz.isAgg319
 z228:=Tryz.sizeOf319
 v228:=Tryz.zeroValue319
 t229:=Tryz.underlying320
 a229:=Tryz.isAgg320
 z229:=Tryz.sizeOf320
 v229:=Tryz.zeroValue320}
open Go.Sort Go.RowKit in
theorem Tryz.slices_Sort_string(blk off cap:Nat)(ss:List (List UInt8))(w:World)(hH:Holds encStr w blk off ss.toArray)(Lj:blk<w.heap.size)(Bz:ss.length<4611686018427387904):
  Calls Tryz.prog 228 #[.slice (some ⟨blk,off,none⟩) ss.length cap] w λe w'=>
   e= .returned (.tuple #[])/\ ∃n os,w'=grow (putRow encStr (Sort.ahead w n) blk off (ss.mergeSort λx y=>decide (x<=y)).toArray) os:=Any.slices_Sort_string Tryz.ia blk off cap ss w hH Lj Bz
def Tryz.ez:Go.Shelf.Ren:=⟨λ|20=>172|n=>n,λ|22=>89|3=>3|4=>4|0=>0|n=>n,λ|n=>n⟩
theorem Tryz.fb:Go.Proofs.Lays2.n20 Tryz.prog Tryz.ez:={
 mixed:=by kernel_rfl
 f20:=Tryz.func172.trans (congrArg some (by kernel_rfl))
 t0:=Tryz.underlying0
 a0:=Tryz.isAgg0
 z0:=Tryz.sizeOf0
 v0:=Tryz.zeroValue0
 t3:=Tryz.underlying3
 a3:=Tryz.isAgg3
 z3:=Tryz.sizeOf3
 v3:=Tryz.zeroValue3
 t4:=Tryz.underlying4
 a4:=Tryz.isAgg4
 z4:=Tryz.sizeOf4
 v4:=Tryz.zeroValue4
 t22:=Tryz.underlying89
 a22:=Tryz.isAgg89
 z22:=Tryz.sizeOf89
 v22:=Tryz.zeroValue89
 i3:=by kernel_rfl}
open Go.RowKit Go.Lib Go.Sort in
theorem Tryz.slices_Compact_int(blk off cap:Nat)(zs:List Int)(w:World)(hH:Holds (Value.int .i64) w blk off zs.toArray)(Bz:zs.length<=9223372036854775807)(Fk:zs.length<=cap):
  Calls Tryz.prog 172 #[.slice (some ⟨blk,off,none⟩) zs.length cap] w λe w'=>e= .returned (.slice (some ⟨blk,off,none⟩) (Lib.compact zs).length cap)/\ ∃q,w'=putRow (Value.int .i64) (Sort.ahead w q) blk off (Lib.compact zs++List.replicate (zs.length-(Lib.compact zs).length) 0).toArray:=Any.slices_Compact_int Tryz.fb blk off cap zs w hH Bz Fk
open Go.RowKit Go.Lib Go.Sort in
theorem Tryz.slices_Compact_int_empty(a:Option Addr)(cap:Nat)(w:World):
  Calls Tryz.prog 172 #[.slice a 0 cap] w λe w'=>e= .returned (.slice a 0 cap)/\w'=w:=Any.slices_Compact_int_empty Tryz.fb a cap w
def Tryz.gh:Go.Shelf.Ren:=⟨λ|194=>229|n=>n,λ|31=>24|9=>9|3=>3|4=>4|0=>0|n=>n,λ|n=>n⟩
theorem Tryz.ib:Go.Proofs.Lays.n194 Tryz.prog Tryz.gh:={
 mixed:=by kernel_rfl
 f194:=Tryz.func229.trans (congrArg some (by kernel_rfl))
 t0:=Tryz.underlying0
 a0:=Tryz.isAgg0
 z0:=Tryz.sizeOf0
 v0:=Tryz.zeroValue0
 t3:=Tryz.underlying3
 a3:=Tryz.isAgg3
 z3:=Tryz.sizeOf3
 v3:=Tryz.zeroValue3
 t4:=Tryz.underlying4
 a4:=Tryz.isAgg4
 z4:=Tryz.sizeOf4
 v4:=Tryz.zeroValue4
 t9:=Tryz.underlying9
 a9:=Tryz.isAgg9
 z9:=Tryz.sizeOf9
 v9:=Tryz.zeroValue9
 t31:=Tryz.underlying24
 a31:=Tryz.isAgg24
 z31:=Tryz.sizeOf24
 v31:=Tryz.zeroValue24}
open Go.RowKit Go.Lib Go.Sort in
theorem Tryz.slices_Compact_string(blk off cap:Nat)(zs:List (List UInt8))(w:World)(hH:Holds encStr w blk off zs.toArray)(Bz:zs.length<=9223372036854775807)(Fk:zs.length<=cap):
  Calls Tryz.prog 229 #[.slice (some ⟨blk,off,none⟩) zs.length cap] w λe w'=>e= .returned (.slice (some ⟨blk,off,none⟩) (Lib.compact zs).length cap)/\ ∃q,w'=putRow encStr (Sort.ahead w q) blk off (Lib.compact zs++List.replicate (zs.length-(Lib.compact zs).length) []).toArray:=Any.slices_Compact_string Tryz.ib blk off cap zs w hH Bz Fk
open Go.RowKit Go.Lib Go.Sort in
theorem Tryz.slices_Compact_string_empty(a:Option Addr)(cap:Nat)(w:World):
  Calls Tryz.prog 229 #[.slice a 0 cap] w λe w'=>e= .returned (.slice a 0 cap)/\w'=w:=Any.slices_Compact_string_empty Tryz.ib a cap w
open Go.RowKit Go.Sort in
theorem Tryz.slices_Sort_string_none(p:Option Addr)(cap:Nat)(w:World):
  Calls Tryz.prog 228 #[.slice p 0 cap] w λe w'=>e= .returned (.tuple #[])/\w'=w:=Any.slices_Sort_string_none Tryz.ia p cap w
end Go.Proofs
end
section
namespace Go.Proofs.YtalagilebkaegaaGreat
open Go.RowKit
set_option maxRecDepth 100000
theorem wZ:∀(l:List UInt8) (c:UInt8), -1<=Lib.indexByte l c/\Lib.indexByte l c<l.length\/Lib.indexByte l c= -1
 | [],_=> .inr rfl
 |b::l,c=>by
  unfold Lib.indexByte;rcases wZ l c with h|h
  ·split
   ·left;simp
   ·split
    ·exact .inr rfl
    ·left;rw[A3];omega
  ·rw[h];split
   ·left;simp
   ·right;rfl
theorem zC8{n:Int}(h1: -9223372036854775808<=n)(h2:n<=9223372036854775807):E4 .i64 n:=CD h1 h2
def XO(s:List UInt8)(c:Int):Option Int:=some (Lib.indexByte s c.toNat.toUInt8)
theorem zhy(a0:List UInt8)(a1 r:Int)(h:XO a0 a1=some r):Cm Tryz.prog B5 302 [.str a0, .int .u8 a1] (.int .i64 r):=zEr (by kernel_rfl) λw vs rf hr=>by
 obtain⟨b,us,rfl,rfl,hb,hr⟩:=fS hr;obtain⟨us1,rfl,_,hr⟩:=SS hr;obtain⟨rfl,rfl⟩:=PI hr;refine(Tryz.stringslite_IndexByte b a1 w).mono ?_;rintro e w' ⟨rfl,rfl⟩;cases h;have hl:b.data.toList.length<=9223372036854775807:=by rw[BC];exact hb
 exact⟨Mod.refl [] _,_,[],rfl, .int (by rcases wZ b.data.toList a1.toNat.toUInt8 with h|h<;>exact zC8 (by omega) (by omega)) .nil,by simp⟩
theorem Y3{P:Program}(w:World)(dT sT ty elem:TypeId)(k:Nat)(g o dLen dCap:Nat)(a:Addr)(sLen sCap:Nat)(cur:Array Value)(t:TypeId)(cs:List Value)
  (hu:P.underlying dT=some (.slice elem)) (hs:(P.info? elem).map (·.size)=some k)
  (hg:w.heap[g]?=some (.cells cur t (0,0))) (hn:cs.length=Nat.min sLen dLen*k)
  (De:∀j v,cs[j]?=some v->w.cell? (a.add j)=some v) (EI:o+cs.length<=cur.size) (h1:∀v∈cs,v.oneCell'=true):
  (Builtin.copy_ #[dT,sT] ty #[.slice (some ⟨g,o,none⟩) dLen dCap, .slice (some a) sLen sCap]).run P w=
   .ok (goInt (Nat.min sLen dLen)) (w.setRow g (cur.toList.take o++cs++cur.toList.drop (o+cs.length)).toArray):=by
 have hl:=run_loadCells_list (P:=P) w a cs De;have Em:=run_storeCells_at P g o t cs 0 cur w hg (by simpa using EI) h1;cases hq:P.info? elem with
 |none=>simp[hq]at hs
 |some i=>
  have hi:i.size=k:=by simpa[hq]using hs
  rw[hn]at hl;simp[Builtin.copy_,run_underlying hu,Builtin.lenOf,Builtin.firstCells,sizeOf,typeInfo,hq,hi,hl,Em]
theorem lU{P:Program}(w:World){ops:Array Oper}{rest:List Oper}{o:Oper}{a:Act}{Q:Exit->Act->World->Prop}(Qa:o.guard=none)(d s:Operand)(t t':TypeId)
  (ho:o.op= .call {callee:= .builtin .copy,args:= #[d,s],argTypes:= #[t,t']}) (v u:Value) (hd:a.eval d=v) (hs:a.eval s=u) {v':Value} {w':World}
  (hr:(Builtin.copy_ #[t,t'] o.type #[v,u]).run P w= .ok v' w') (h:wpList P ops Q rest (a.put o.dst v') w'):wpList P ops Q (o::rest) a w:=
 wpList_plain Qa λ_ hK=>by unfold Oper.wp execOp;simp only[ho,resolve,invoke,builtin,Sem.run_bind,Sem.run_pure,Result.andThen_ok,List.map_toArray,List.map_cons,List.map_nil,hd,hs,hr];exact hK _ _ h
theorem yG{P:Program}{ops:Array Oper}{o:Oper}{a:Act}{w:World}{K:Act->World->Prop}{Q:Exit->Act->World->Prop}{E:Prop}
  (hg:o.guard=none) (d x:Operand) (dT sT:TypeId) (AU:o.op=Op.call {callee:=Callee.builtin Builtin.copy,args:= #[d,x],argTypes:= #[dT,sT]})
  (v u:Value) (hd:a.eval d=v) (hx:a.eval x=u) {v':Value} {w':World} (hr:(Builtin.copy_ #[dT,sT] o.type #[v,u]).run P w= .ok v' w') (hK:K (a.put o.dst v') w'):
  if Region.wanted o (yielded ops a.tmps)=true then Oper.wp P o a w K Q else E:=by
 have hw:Region.wanted o (yielded ops a.tmps)=true:=by simp[Region.wanted,hg]
 rw[if_pos hw];unfold Oper.wp;simp[execOp,AU,resolve,invoke,builtin,hd,hx,hr,Result.andThen];exact hK
def Dl(w:World)(el:TypeId)(k:Nat)(g cap:Nat)(C:Array Value)(n:Nat)(cs:List Value):Prop:=
 n<=cap/\cap<=maxLen/\w.heap[g]?=some (.cells C el (0,0))/\C.size=cap*k/\cs=C.toList.take (n*k)
def OY(w w':World)(el:TypeId)(k:Nat)(own:List Nat)(v:Value)(n:Nat)(cs:List Value):Prop:=
 ∃g cap C,v= .slice (some ⟨g,0,none⟩) n cap/\Dl w' el k g cap C n cs/\Mod own w w'/\(g∈own\/w.heap.size<=g)
def NW(P:Program)(f:Nat)(el:TypeId)(k:Nat):Prop:=
 ∀(w:World) (v:Value) (n i:Nat) (cs:List Value) (own:List Nat) (vb vc m:Nat) (VC:Array Value) (vs:List Value),cs.length=n*k->
  ((n=0/\ ∃q,v= .slice q 0 0)\/ ∃g cap C,v= .slice (some ⟨g,0,none⟩) n cap/\Dl w el k g cap C n cs/\g∈own)->i<=n->Dl w el k vb vc VC m vs->(∀g∈own,vb≠g)->0<m->(n+m)*1000<=140737488355328->
  (∀u∈vs,u.oneCell'=true)->(∀u∈cs,u.oneCell'=true)->
  Calls P f #[v, .int .i64 i, .slice (some ⟨vb,0,none⟩) m vc] w λe w'=> ∃u,e= .returned u/\OY w w' el k own u (n+m) (cs.take (i*k)++vs++cs.drop (i*k))
theorem Dl.cell{w:World}{el:TypeId}{k g cap:Nat}{C:Array Value}{n:Nat}{cs:List Value}(h:Dl w el k g cap C n cs)(off j:Nat)(v:Value)(hj:(cs.drop off)[j]?=some v):w.cell? ((⟨g,off,none⟩:Addr).add j)=some v:=by
 obtain⟨_,_,h3,_,h5⟩:=h;rw[Addr.add_lit,EA h3];rw[List.getElem?_drop,h5,List.getElem?_take]at hj;split at hj
 ·simpa using hj
 ·cases hj
theorem Dl.len{w:World}{el:TypeId}{k g cap:Nat}{C:Array Value}{n:Nat}{cs:List Value}(h:Dl w el k g cap C n cs):cs.length=n*k:=by obtain⟨h1,_,_,h4,h5⟩:=h;have:=Br k h1;rw[h5,Aw,BC];omega
theorem zGY{α:Type}(cur cs vs:List α)(i m n:Nat)(hc:cs=cur.take n)(hi:i<=n)(hv:vs.length=m)(hn:n+m<=cur.length):
  let c1:=cur.take (i+m)++cs.drop i++cur.drop (i+m+(cs.drop i).length)
  (c1.take i++vs++c1.drop (i+vs.length)).take (n+m)=cs.take i++vs++cs.drop i:=by
 have Ax:cs.length=n:=by rw[hc,Aw];omega
 have hd:(cs.drop i).length=n-i:=by rw[BD,Ax]
 intro c1;have e1:c1.take i=cs.take i:=by show(cur.take (i+m)++cs.drop i++_).take i=_;rw[List.append_assoc,List.take_append_of_le_length (by rw[Aw];omega),List.take_take,hc,List.take_take];congr 1;omega
 have e2:c1.drop (i+vs.length)=cs.drop i++cur.drop (i+m+(cs.drop i).length):=by show(cur.take (i+m)++cs.drop i++_).drop _=_;rw[List.append_assoc,List.drop_append_of_le_length (by rw[Aw,hv];omega),List.drop_eq_nil_of_le (by rw[Aw,hv];omega),List.nil_append]
 rw[e1,e2];have l1:(cs.take i++vs++cs.drop i).length=n+m:=by simp only[AP,Aw,hv,hd,Ax];omega
 rw[<-List.append_assoc,<-l1,List.take_left]
theorem two{α:Type}(zs cs vs:List α)(i m n:Nat)(cur:List α)(cM:cur=cs.take i++zs)(Ax:cs.length=n)(hi:i<=n)(hv:vs.length=m)(hz:n+m-i<=zs.length):
  let c1:=cur.take i++vs++cur.drop (i+vs.length)
  (c1.take (i+m)++cs.drop i++c1.drop (i+m+(cs.drop i).length)).take (n+m)=cs.take i++vs++cs.drop i:=by
 have ht:(cs.take i).length=i:=by rw[Aw];omega
 intro c1;have e1:c1=cs.take i++vs++cur.drop (i+vs.length):=by show cur.take i++vs++cur.drop (i+vs.length)=_;rw[cM];congr 2;rw[List.take_append_of_le_length (by omega),List.take_take,Nat.min_self]
 have e2:c1.take (i+m)=cs.take i++vs:=by
  have l2:(cs.take i++vs).length=i+m:=by rw[AP,ht,hv]
  rw[e1,<-l2,List.take_left]
 rw[e2];have l1:(cs.take i++vs++cs.drop i).length=n+m:=by simp only[AP,ht,hv,BD,Ax];omega
 rw[<-l1,List.take_left]
theorem Sk(xs ys:List AV):Aq (xs++ys)=Aq xs++Aq ys:=by simp[Aq]
theorem Se{K:Nat}{xs:List AV}(h:∀y∈xs,y.cells.length=K){i:Nat}(hi:i<=xs.length):Aq (xs.take i)=(Aq xs).take (i*K)/\Aq (xs.drop i)=(Aq xs).drop (i*K):=by
 have l1:(Aq (xs.take i)).length=i*K:=by rw[KQ _ λy hy=>h y (Bt hy),Aw,Nat.min_eq_left hi]
 have e:Aq xs=Aq (xs.take i)++Aq (xs.drop i):=by rw[<-Sk,B9]
 rw[e,<-l1,List.take_left,List.drop_left];exact⟨rfl,rfl⟩
theorem C3.jn{w:World}{el K:Nat}{v:Value}{x:AV}{top:List Nat}(h:C3 w el K v x top []):∃xs cs,x= .sl xs/\0<K/\(∀y∈xs,y.cells.length=K)/\cs.length=xs.length*K/\Rd w cs (Aq xs) []/\(∀u∈cs,u.oneCell'=true)/\
  ((xs=[]/\top=[]/\ ∃q,v= .slice q 0 0)\/ ∃g cap C,v= .slice (some ⟨g,0,none⟩) xs.length cap/\Dl w el K g cap C xs.length cs/\top=[g]):=by
 obtain⟨xs,rfl,h2,h3,⟨rfl,⟨a,hv⟩,rfl,_⟩|⟨g,cap,C,rfl,h6,h7,h8,h9,rfl,Fj,EE⟩⟩:=h
 ·exact⟨[],[],rfl,h3,h2,by simp,by simpa[Aq]using Rd.nil,by simp, .inl ⟨rfl,rfl,a,hv⟩⟩
 ·exact⟨xs,_,rfl,h3,h2,(Dl.len ⟨h6,h7,h8,h9,rfl⟩),EE,Fj, .inr ⟨g,cap,C,rfl,⟨h6,h7,h8,h9,rfl⟩,rfl⟩⟩
theorem ZV{P:Program}{w:World}{t el:TypeId}{v:Value}{x:AV}{rf hs:List Nat}(ha:Ao P t=false)(hl:A9 P t=[t])(he:CT P t=some el)(hf:Cc P el=true)(h:NQ P w t [true] v x rf hs):rf=[]/\C3 w el (P.cellsOf el) v x hs []:=by
 obtain⟨us,ys,h1,h2⟩:=h;rw[ha]at h1;simp only[AS,if_false]at h1;obtain⟨rfl,rfl⟩:=h1;rw[hl]at h2;cases h2 with
 |own q1 q2 q3 q4 q5=>
  cases q5;rw[he]at q2;cases q2;rcases q3 with⟨_,rfl⟩|⟨h,_⟩
  ·exact⟨rfl,by simpa using q4⟩
  ·rw[hf]at h;cases h
 |deep q1 q2 q3=>rw[he]at q2;cases q2;rw[hf]at q3;cases q3
 |rd q1=>have:=q1 rfl;rw[he]at this;cases this
def gJ(P:Program)(sg:B1)(f:Nat)(t it el K:Nat):Bool:=
 match P.funcs[f]?,sg f with
 |some fn,some s=>(match s.b8,s.res,s.ft,s.lo with
  | [.va [true], .ro, .va [true]],[true],[],[]=>true
  |_,_,_,_=>false)&&fn.body.isSome&& !(fn.name== "runtime.NumGoroutine")&&fn.params.toList==[t,it,t]&&(Dw fn s)==[t]&&fn.nfree==0&& !Ao P t&&A9 P t==[t]&&CT P t==some el&&Cc P el&&P.cellsOf el==K&&F6 P t [true]&&fn.params.size==3
 |_,_=>false
def IW(P:Program)(sg:B1)(f:Nat)(r:List AV):Bool:=match P.funcs[f]?,sg f with
 |some fn,some s=>Ny P fn s (.sl r)
 |_,_=>false
theorem zFn{f t it el K:Nat}(hk:gJ Tryz.prog B5 f t it el K=true)(B7:∀r,IW Tryz.prog B5 f r=true)(Fm:NW Tryz.prog f el K)(xs ys:List AV)(i:Int)(h0:0<=i)(h1:i<=xs.length)(hy:ys≠ [])(hb:(xs.length+ys.length)*1000<=140737488355328):
  Cm Tryz.prog B5 f [.sl xs, .int .i64 i, .sl ys] (.sl (xs.take i.toNat++ys++xs.drop i.toNat)):=by
 unfold gJ at hk;split at hk
 ·rename_i fn s hf hs;simp only[Ab,Bg,AM]at hk;obtain⟨⟨⟨⟨⟨⟨⟨⟨⟨⟨⟨⟨g1,g2⟩,g3⟩,g4⟩,g5⟩,g6⟩,g7⟩,g8⟩,g9⟩,g10⟩,g11⟩,g12⟩,g13⟩:=hk;obtain⟨hm,hr,CA,B2⟩:s.b8=[.va [true], .ro, .va [true]]/\s.res=[true]/\s.ft=[]/\s.lo=[]:=by
   split at g1
   ·rename_i a b c d;exact⟨a,b,c,d⟩
   ·cases g1
  unfold Cm;rw[if_pos (KW f s hs)];refine⟨s,hs,fn,hf,g2,g3,by have:=B7 (xs.take i.toNat++ys++xs.drop i.toNat);unfold IW at this;rw[hf,hs]at this;exact this,by simp[g6,g13],by simp[CA],λw vs rf lf A5 Ah hd _ B8 D3=> ?_⟩;rw[g4,CA,AE,hm,B2]at Ah;cases Ah with
  |lent h _ _ _=>cases h
  | @cons _ _ _ _ v1 vs1 _ _ f1 k1 rf1 lf1 BM a1 Ah=>
   cases Ah with
   |lent h _ _ _=>cases h
   | @cons _ _ _ _ v2 vs2 _ _ f2 k2 rf2 lf2 A8 a2 Ah=>
    cases Ah with
    |lent h _ _ _=>cases h
    | @cons _ _ _ _ v3 vs3 _ _ f3 k3 rf3 lf3 Hl a3 Ah=>
     cases Ah;obtain⟨rfl,r1⟩:=ZV g7 g8 g9 g10 a1;obtain⟨rfl,r3⟩:=ZV g7 g8 g9 g10 a3;obtain⟨a2,rfl⟩:Rd w [v2] [AV.int .i64 i] f2/\k2=[]:=a2;obtain⟨us,rfl2,hI,a2⟩:=SS a2;obtain⟨rfl,rfl⟩:=PI a2;cases rfl2;obtain⟨xs',cs,e1,p0,p1,p2,p3,p4,p5⟩:=r1.jn;cases e1;obtain⟨ys',cv,e2,_,q1,q2,q3,q4,q5⟩:=r3.jn;cases e2;rw[g11]at p0 p1 p2 p5 q1 q2 q5;obtain⟨vb,vc,VC,rfl,hv,rfl⟩:∃g cap C,v3= .slice (some ⟨g,0,none⟩) ys.length cap/\Dl w el K g cap C ys.length cv/\k3=[g]:=by
      rcases q5 with⟨h,_⟩|h
      ·exact absurd h hy
      ·exact h
     have hnd':k1++ [vb]=k1++([]++([vb]++ [])):=by simp
     have I1:∀g∈k1,vb≠g:=by intro g hg e;subst e;have:=(List.nodup_append.1 B8).2.2 vb hg vb (by simp);exact this rfl
     have fG:0<ys.length:=by cases ys with|nil=>exact absurd rfl hy|cons=>simp
     have hc:=Fm w v1 xs.length i.toNat cs k1 vb vc ys.length VC cv p2 (by
      rcases p5 with⟨rfl,_,q,rfl⟩|⟨g,cap,C,rfl,h,rfl⟩
      ·exact .inl ⟨rfl,q,rfl⟩
      ·exact .inr ⟨g,cap,C,rfl,h,by simp⟩) (by omega) hv I1 fG hb q4 p4
     rw[show((i.toNat:Nat):Int)=i by omega]at hc;refine hc.mono ?_;rintro e w' ⟨u,rfl,g,cap,C,rfl,⟨z1,z2,z3,z4,z5⟩,Bq,EM⟩;have I3:∀{us:List Value} {zs:List AV},Rd w us zs []->Rd w' us zs []:=λh=>h.frame (by simp);have cut:∀o n,Rd w ((cs.drop o).take n) (((Aq xs).drop o).take n) []:=λo n=>by
      obtain⟨gg,k1,k2⟩:=p3.piece o n;have:gg=[]:=List.eq_nil_iff_forall_not_mem.2 λb hb=>by simpa using k1 b hb
      rw[this]at k2;exact k2
     obtain⟨t1,t2⟩:=Se p1 (i:=i.toNat) (by omega);have hmul:=Br K (show i.toNat<=xs.length by omega);have Db:Rd w' (cs.take (i.toNat*K)++cv++cs.drop (i.toNat*K)) (Aq (xs.take i.toNat++ys++xs.drop i.toNat)) []:=by rw[Sk,Sk,t1,t2];have c1:=cut 0 (i.toNat*K);have c2:=cut (i.toNat*K) (cs.length-i.toNat*K);rw[List.drop_zero,List.drop_zero]at c1;rw[List.take_of_length_le (by simp),List.take_of_length_le (by rw[BD,KQ _ p1,p2];exact AJ _)]at c2;exact(((I3 c1).app (I3 q3)).app (I3 c2))
     have hlen:(xs.take i.toNat++ys++xs.drop i.toNat).length=xs.length+ys.length:=by simp only[AP,Aw,BD];omega
     have Be:C3 w' el K (.slice (some ⟨g,0,none⟩) (xs.length+ys.length) cap) (.sl (xs.take i.toNat++ys++xs.drop i.toNat)) [g] []:=by
      refine⟨_,rfl,λy hy=> ?_,p0, .inr ⟨g,cap,C,by rw[hlen],by rw[hlen];exact z1,z2,z3,z4,rfl,?_,?_⟩⟩
      ·rcases Ac.1 hy with hy|hy
       ·rcases Ac.1 hy with hy|hy
        ·exact p1 y (Bt hy)
        ·exact q1 y hy
       ·exact p1 y (BO hy)
      ·rw[hlen,<-z5];intro u hu;rcases Ac.1 hu with hu|hu
       ·rcases Ac.1 hu with hu|hu
        ·exact p4 u (Bt hu)
        ·exact q4 u hu
       ·exact p4 u (BO hu)
      ·rw[hlen,<-z5];exact Db
     refine⟨_,rfl,⟨⟨_,[],[],[g],[],[],rfl,?_,?_,by simp,?_,by simp⟩,Bq.weaken λb hb=> .inl (by simp[hb])⟩⟩
     ·rw[g5];show D7 Tryz.prog w' t s.res _ _ [] [g];unfold D7;rw[hr,if_pos g12];refine⟨[.slice (some ⟨g,0,none⟩) (xs.length+ys.length) cap],[.sl (xs.take i.toNat++ys++xs.drop i.toNat)],by rw[g7];simp,?_⟩;rw[g8];have:=Cs.own (P:=Tryz.prog) (t:=t) (ts:=[]) (fl:=[true]) (us:=[]) (ys:=[]) (rf:=[]) (hs:=[]) rfl g9 (.inl ⟨g10,rfl⟩) (by rw[g11];exact Be) .nil;simpa using this
     ·rw[g4,CA,AE,hm];exact .va rfl (.ro rfl (.va rfl .nil))
     ·intro b hb;simp only[AE,List.mem_singleton]at hb;subst hb;exact⟨by rcases EM with h|h;exact .inl (by simp[h]);exact .inr h,Dq z3⟩
 ·cases hk
noncomputable def H5{α:Type}(xs:List α)(i:Int)(ys:List α):Option (List α):=AK (0<=i/\i<=xs.length/\0<ys.length/\(xs.length+ys.length)*1000<=140737488355328) (some (xs.take i.toNat++ys++xs.drop i.toNat))
theorem zFm{f t it el K:Nat}(hk:gJ Tryz.prog B5 f t it el K=true)(B7:∀r,IW Tryz.prog B5 f r=true)(Fm:NW Tryz.prog f el K){α:Type}{av:α->AV}{xs ys r:List α}{i:Int}(h:H5 xs i ys=some r):
  Cm Tryz.prog B5 f [.sl (xs.map av), .int .i64 i, .sl (ys.map av)] (.sl (r.map av)):=by
 obtain⟨⟨h0,h1,h2,h3⟩,h⟩:=F7 h;cases h;have:=zFn hk B7 Fm (xs.map av) (ys.map av) i h0 (by simpa using h1) (by cases ys with|nil=>simp at h2|cons=>simp) (by simpa using h3);simpa[List.map_append,List.map_take,List.map_drop]using this
theorem mX{P:Program}{w:World}{t el K:Nat}{l:Az}{v:Value}{x:AV}{rf hs:List Nat}(ha:Ao P t=false)(hl:A9 P t=[t])(he:CT P t=some el)(hf:Cc P el=false)(hd:DE P t=some (.row el K l))(h:NQ P w t [true] v x rf hs):rf=[]/\DC w [.row el K l] [v] [x] hs:=by
 obtain⟨us,ys,h1,h2⟩:=h;rw[ha]at h1;simp only[AS,if_false]at h1;obtain⟨rfl,rfl⟩:=h1;rw[hl]at h2;cases h2 with
 |own q1 q2 q3 q4 q5=>
  rw[he]at q2;cases q2;rcases q3 with⟨h,_⟩|⟨_,h⟩
  ·rw[hf]at h;cases h
  ·rw[hd]at h;cases h
 |deep q1 q2 q3 q4 q5 q6=>cases q6;rw[hd]at q4;cases q4;exact⟨rfl,by simpa using q5⟩
 |rd q1=>have:=q1 rfl;rw[he]at this;cases this
theorem oE(l:List DT){n i:Nat}(hi:i<=n):BJ n l=BJ i l++BJ (n-i) l:=by rw[<-Nu];congr 1;omega
theorem DC.cut{w:World}{xs:List AV}{l:List DT}{K:Nat}{cs:List Value}{N:List Nat}(hK:l.length=K)(h:DC w (BJ xs.length l) cs (Aq xs) N)(hx:∀y∈xs,y.cells.length=K){i:Nat}(hi:i<=xs.length):
  ∃N1 N2,N=N1++N2/\DC w (BJ i l) (cs.take (i*K)) (Aq (xs.take i)) N1/\DC w (BJ (xs.length-i) l) (cs.drop (i*K)) (Aq (xs.drop i)) N2:=by
 have hlen:=h.len;have t1:=Se hx hi;have hmul:=Br K hi;rw[oE l hi,<-B9 (i*K) cs,<-B9 (i*K) (Aq xs)]at h;rw[KS,hK]at hlen;obtain⟨N1,N2,rfl,h1,h2⟩:=DC.dt (by rw[KS,hK,Aw];omega) (by rw[KS,hK,Aw];omega) h;exact⟨N1,N2,rfl,by rw[t1.1];exact h1,by rw[t1.2];exact h2⟩
def gD(P:Program)(sg:B1)(f:Nat)(t it el K:Nat)(l:List DT):Bool:=
 match P.funcs[f]?,sg f with
 |some fn,some s=>(match s.b8,s.res,s.ft,s.lo with
  | [.va [true], .ro, .va [true]],[true],[],[]=>true
  |_,_,_,_=>false)&&fn.body.isSome&& !(fn.name== "runtime.NumGoroutine")&&fn.params.toList==[t,it,t]&&(Dw fn s)==[t]&&fn.nfree==0&& !Ao P t&&A9 P t==[t]&&CT P t==some el&& !Cc P el&&KV (DE P t) el K l&&F6 P t [true]&&fn.params.size==3
 |_,_=>false
theorem zCJ{f t it el K:Nat}{l:List DT}(hk:gD Tryz.prog B5 f t it el K l=true)(B7:∀r,IW Tryz.prog B5 f r=true)(Fm:NW Tryz.prog f el K)(xs ys:List AV)(i:Int)(h0:0<=i)(h1:i<=xs.length)(hy:ys≠ [])(hb:(xs.length+ys.length)*1000<=140737488355328):
  Cm Tryz.prog B5 f [.sl xs, .int .i64 i, .sl ys] (.sl (xs.take i.toNat++ys++xs.drop i.toNat)):=by
 unfold gD at hk;split at hk
 ·rename_i fn s hf hs;simp only[Ab,Bg,AM]at hk;obtain⟨⟨⟨⟨⟨⟨⟨⟨⟨⟨⟨⟨g1,g2⟩,g3⟩,g4⟩,g5⟩,g6⟩,g7⟩,g8⟩,g9⟩,g10⟩,g11⟩,g12⟩,g13⟩:=hk;have g11:=Pr g11;obtain⟨hm,hr,CA,B2⟩:s.b8=[.va [true], .ro, .va [true]]/\s.res=[true]/\s.ft=[]/\s.lo=[]:=by
   split at g1
   ·rename_i a b c d;exact⟨a,b,c,d⟩
   ·cases g1
  unfold Cm;rw[if_pos (KW f s hs)];refine⟨s,hs,fn,hf,g2,g3,by have:=B7 (xs.take i.toNat++ys++xs.drop i.toNat);unfold IW at this;rw[hf,hs]at this;exact this,by simp[g6,g13],by simp[CA],λw vs rf lf A5 Ah hd _ B8 D3=> ?_⟩;rw[g4,CA,AE,hm,B2]at Ah;cases Ah with
  |lent h _ _ _=>cases h
  | @cons _ _ _ _ v1 vs1 _ _ f1 k1 rf1 lf1 BM a1 Ah=>
   cases Ah with
   |lent h _ _ _=>cases h
   | @cons _ _ _ _ v2 vs2 _ _ f2 k2 rf2 lf2 A8 a2 Ah=>
    cases Ah with
    |lent h _ _ _=>cases h
    | @cons _ _ _ _ v3 vs3 _ _ f3 k3 rf3 lf3 Hl a3 Ah=>
     cases Ah;obtain⟨rfl,r1⟩:=mX g7 g8 g9 g10 g11 a1;obtain⟨rfl,r3⟩:=mX g7 g8 g9 g10 g11 a3;obtain⟨a2,rfl⟩:Rd w [v2] [AV.int .i64 i] f2/\k2=[]:=a2;obtain⟨us,rfl2,hI,a2⟩:=SS a2;obtain⟨rfl,rfl⟩:=PI a2;cases rfl2;obtain⟨p0,pl,r1'⟩:=r1.inv;obtain⟨_,_,⟨a,_,e2,_⟩|⟨vb,vc,VC,ys',M,rfl,e2,rfl,q1,q2,q3,q4,q5,q6,q7⟩⟩:=r3.inv
     ·cases e2;exact absurd rfl hy
     cases e2;rw[Az.ax]at pl q7;have fG:0<ys.length:=by cases ys with|nil=>exact absurd rfl hy|cons=>simp
     have hv:Dl w el K vb vc VC ys.length (VC.toList.take (ys.length*K)):=⟨q2,q3,q1,q4,rfl⟩
     obtain⟨cs,own,N,e1,GM,Ax,AY,hsin,dY,eJ,I2⟩:∃(cs:List Value) (own N:List Nat),k1=own++N/\own.length<=1/\cs.length=xs.length*K/\
       ((xs.length=0/\ ∃q,v1= .slice q 0 0)\/ ∃g cap C,v1= .slice (some ⟨g,0,none⟩) xs.length cap/\Dl w el K g cap C xs.length cs/\g∈own)/\(∀g∈own,g∈k1)/\(∀u∈cs,u.oneCell'=true)/\(∀y∈xs,y.cells.length=K)/\DC w (BJ xs.length l) cs (Aq xs) N:=by
      rcases r1' with⟨a,rfl,e1,rfl⟩|⟨g,cap,C,xs',N,rfl,e1,rfl,d1,d2,d3,d4,d5,d6,d7⟩
      ·cases e1;exact⟨[],[],[],rfl,by simp,by simp, .inl ⟨rfl,a,rfl⟩,by simp,by simp,by simp,by simpa[BJ,Aq]using DC.nil⟩
      ·cases e1;rw[Az.ax]at d7;have hR:Dl w el K g cap C xs.length (C.toList.take (xs.length*K)):=⟨d2,d3,d1,d4,rfl⟩
       exact⟨_,[g],N,rfl,by simp,hR.len, .inr ⟨g,cap,C,rfl,hR,by simp⟩,by simp,d6,d5,d7⟩
     subst e1;have Ce:i.toNat<=xs.length:=by omega
     have I1:∀g∈own,vb≠g:=by intro g hg e;subst e;have hn:((own++N)++([]++((vb::M)++ []))).Nodup:=B8;exact(List.nodup_append.1 hn).2.2 vb (by simp[hg]) vb (by simp) rfl
     have hc:=Fm w v1 xs.length i.toNat cs own vb vc ys.length VC _ Ax AY Ce hv I1 fG hb q6 dY;rw[show((i.toNat:Nat):Int)=i by omega]at hc;refine hc.mono ?_;rintro e w' ⟨u,rfl,g,cap,C,rfl,⟨z1,z2,z3,z4,z5⟩,Bq,EM⟩;have ET:((own++N)++(vb::M)).Nodup:=by simpa using B8
     have dX:∀b∈N,b∉own:=λb hb ho=>(List.nodup_append.1 (List.nodup_append.1 ET).1).2.2 b ho b hb rfl;have rP:∀b∈M,b∉own:=λb hb ho=>(List.nodup_append.1 ET).2.2 b (by simp[ho]) b (by simp[hb]) rfl;have fN:=I2.frame (w':=w') λb hb=>Bq.block b (I2.inb b hb) (dX b hb);have fM:=q7.frame (w':=w') λb hb=>Bq.block b (q7.inb b hb) (rP b hb);obtain⟨N1,N2,rfl,c1,c2⟩:=fN.cut pl eJ Ce;have hlen:(xs.take i.toNat++ys++xs.drop i.toNat).length=xs.length+ys.length:=by simp only[AP,Aw,BD];omega
     have BX:DC w' (BJ (xs.length+ys.length) l) (C.toList.take ((xs.length+ys.length)*K)) (Aq (xs.take i.toNat++ys++xs.drop i.toNat)) (N1++M++N2):=by rw[<-z5,Sk,Sk,show xs.length+ys.length=(i.toNat+ys.length)+(xs.length-i.toNat) by omega,Nu,Nu];exact(c1.app fM).app c2
     have Be:DC w' [.row el K (Az.of l)] [.slice (some ⟨g,0,none⟩) (xs.length+ys.length) cap] [.sl (xs.take i.toNat++ys++xs.drop i.toNat)] (g::(N1++M++N2)):=by
      have:=DC.row (w:=w') (e:=el) (z:=K) (l:=Az.of l) (g:=g) (cap:=cap) (C:=C) (ys:=xs.take i.toNat++ys++xs.drop i.toNat) (N1:=N1++M++N2) (ts:=[]) (vs:=[]) (xs:=[]) (N:=[]) p0 (by rw[Az.ax];exact pl) z3 (by rw[hlen];exact z1) z2 z4 (λy hy=> ?_) (by
       rw[hlen,<-z5];intro u hu;rcases Ac.1 hu with hu|hu
       ·rcases Ac.1 hu with hu|hu
        ·exact dY u (Bt hu)
        ·exact q6 u hu
       ·exact dY u (BO hu)) (by rw[hlen,Az.ax];exact BX) .nil
      ·rw[hlen]at this;simpa using this
      ·rcases Ac.1 hy with hy|hy
       ·rcases Ac.1 hy with hy|hy
        ·exact eJ y (Bt hy)
        ·exact q5 y hy
       ·exact eJ y (BO hy)
     have BZ:∀b∈N1++M++N2,b∈(own++(N1++N2))++(vb::M):=λb hb=>by simp only[Ac,Ae]at hb ⊢;rcases hb with(hb|hb)|hb<;>simp[hb]
     have Lu:(N1++M++N2).Nodup:=by
      have h1:((N1++N2)++M).Nodup:=((List.nodup_append.1 ET).1.sublist (List.sublist_append_right _ _)|>λa=>List.nodup_append.2 ⟨a,((List.nodup_append.1 ET).2.1).sublist (List.sublist_cons_self _ _),λp hp q hq=>(List.nodup_append.1 ET).2.2 p (List.mem_append_right _ hp) q (List.mem_cons_of_mem _ hq)⟩)
      exact(List.Perm.nodup_iff (by rw[List.append_assoc,List.append_assoc];exact List.Perm.append_left _ List.perm_append_comm)).1 h1
     have hgn:g∉N1++M++N2:=by
      intro CX;rcases EM with hg|hg
      ·simp only[Ac]at CX;rcases CX with(CX|CX)|CX
       ·exact dX g (by simp[CX]) hg
       ·exact rP g CX hg
       ·exact dX g (by simp[CX]) hg
      ·simp only[Ac]at CX;rcases CX with(CX|CX)|CX
       ·have:=I2.inb g (by simp[CX]);omega
       ·have:=q7.inb g CX;omega
       ·have:=I2.inb g (by simp[CX]);omega
     refine⟨_,rfl,⟨⟨_,[],[],g::(N1++M++N2),[],[],rfl,?_,?_,?_,?_,by simp⟩,Bq.weaken λb hb=> .inl (by simp[hb])⟩⟩
     ·rw[g5];show D7 Tryz.prog w' t s.res _ _ [] _;unfold D7;rw[hr,if_pos g12];refine⟨[.slice (some ⟨g,0,none⟩) (xs.length+ys.length) cap],[.sl (xs.take i.toNat++ys++xs.drop i.toNat)],by rw[g7];simp,?_⟩;rw[g8];have:=Cs.deep (P:=Tryz.prog) (t:=t) (ts:=[]) (fl:=[true]) (us:=[]) (ys:=[]) (rf:=[]) (hs:=[]) rfl g9 g10 g11 Be .nil;simpa using this
     ·rw[g4,CA,AE,hm];exact .va rfl (.ro rfl (.va rfl .nil))
     ·rw[AE];exact List.nodup_cons.2 ⟨hgn,Lu⟩
     ·intro b hb;rw[AE]at hb;rcases Ae.1 hb with rfl|hb
      ·exact⟨by rcases EM with h|h;exact .inl (by simp[h]);exact .inr h,Dq z3⟩
      ·have:=BZ b hb;refine⟨.inl (by simpa using this),?_⟩;have AH:b<w.heap.size:=by
        simp only[Ac,Ae]at hb;rcases hb with(hb|hb)|hb
        ·exact I2.inb b (by simp[hb])
        ·exact q7.inb b hb
        ·exact I2.inb b (by simp[hb])
       have:=Bq.size;omega
 ·cases hk
theorem zql{P:Program}(w:World)(t ty el:TypeId)(i:TypeInfo)(ht:P.underlying t=some (.slice el))(hi:P.info? el=some i)(k:Nat)(hk:i.size=k)(g n cap:Nat)(a:Addr)(m c:Nat)(cur:Array Value)(news:List Value)
  (hg:w.heap[g]?=some (.cells cur el (0,0))) (hl:news.length=m*k) (C8:∀j u,news[j]?=some u->w.cell? (a.add j)=some u) (h1:∀u∈news,u.oneCell'=true) (BQ:n+m<=cap) (EI:n*k+news.length<=cur.size):
  (Builtin.append_ #[t,t] ty #[.slice (some ⟨g,0,none⟩) n cap, .slice (some a) m c]).run P w= .ok (.slice (some ⟨g,0,none⟩) (n+m) cap) (w.setRow g (cur.toList.take (n*k)++news++cur.toList.drop (n*k+news.length)).toArray):=by
 subst hk;have TM:=run_firstCells_some (P:=P) w i.size m a m c news hl C8;have Em:=run_storeCells_at P g (n*i.size) el news 0 cur w hg (by simpa using EI) h1;simp only[Nat.add_zero]at Em;simp[Builtin.append_,run_underlying ht,sizeOf,typeInfo,hi,Builtin.lenOf,BQ,TM,Addr.add_lit,Em]
theorem zy1{P:Program}(w:World)(t el ty:TypeId)(z:Value)(ht:P.underlying t=some (.slice el))(hv:∀w,(zeroValue el).run P w= .ok z w)(h1:∀u∈z.cells,u.oneCell'=true)(g o n c:Nat)(cur:Array Value)(hn:0<n)
  (hg:w.heap[g]?=some (.cells cur el (0,0))) (EI:o+n*z.cells.size<=cur.size):
  (Builtin.clear_ #[t] ty #[.slice (some ⟨g,o,none⟩) n c]).run P w= .ok (.tuple #[]) (w.setRow g (cur.toList.take o++(Builtin.zeroCells z.cells n).toList++cur.toList.drop (o+(Builtin.zeroCells z.cells n).toList.length)).toArray):=by
 have Em:=run_storeCells_at P g o el (Builtin.zeroCells z.cells n).toList 0 cur w hg (by simpa[size_zeroCells]using EI) (λu hu=>by
  have hu:u∈Builtin.zeroCells z.cells n:=by simpa using hu
  unfold Builtin.zeroCells at hu;obtain⟨j,hj,rfl⟩:=Array.mem_map.1 hu;have hj:j<n*z.cells.size:=by simpa using hj
  have h0:0<z.cells.size:=by
   rcases Nat.eq_zero_or_pos z.cells.size with h|h
   ·rw[h]at hj;omega
   ·exact h
  rw[getElem!_pos z.cells _ (Nat.mod_lt _ h0)];exact h1 _ (Array.getElem_mem _))
 simp only[Nat.add_zero]at Em;obtain⟨m,rfl⟩:∃m,n=m+1:=⟨n-1,by omega⟩
 simp[Builtin.clear_,run_underlying ht,hv,Em]
theorem zp0{P:Program}{ops:Array Oper}{o:Oper}{a:Act}{w:World}{K:Act->World->Prop}{Q:Exit->Act->World->Prop}{E:Prop}
  (hg:o.guard=none) (s x:Operand) (t:TypeId) (AU:o.op=Op.call {callee:=Callee.builtin Builtin.append,args:= #[s,x],argTypes:= #[t,t]})
  (v u:Value) (hs:a.eval s=v) (hx:a.eval x=u) {v':Value} {w':World} (hr:∀ty,(Builtin.append_ #[t,t] ty #[v,u]).run P w= .ok v' w') (hK:K (a.put o.dst v') w'):
  if Region.wanted o (yielded ops a.tmps)=true then Oper.wp P o a w K Q else E:=by
 have hw:Region.wanted o (yielded ops a.tmps)=true:=by simp[Region.wanted,hg]
 rw[if_pos hw];unfold Oper.wp;simp[execOp,AU,resolve,invoke,builtin,hs,hx,hr,Result.andThen];exact hK
def gF(P:Program)(f:Nat)(el:TypeId)(k:Nat):Prop:=
 ∀(w:World) (n i j g cap:Nat) (C:Array Value) (cs:List Value),Dl w el k g cap C n cs->i<j->j<=n->(∀u∈cs,u.oneCell'=true)->
  Calls P f #[.slice (some ⟨g,0,none⟩) n cap, .int .i64 i, .int .i64 j] w λe w'=> ∃C',e= .returned (.slice (some ⟨g,0,none⟩) (n-(j-i)) cap)/\Dl w' el k g cap C' (n-(j-i)) (cs.take (i*k)++cs.drop (j*k))/\Mod [g] w w'
def gG(P:Program)(sg:B1)(f:Nat)(t it el K:Nat)(l:List DT):Bool:=
 match P.funcs[f]?,sg f with
 |some fn,some s=>(match s.b8,s.res,s.ft,s.lo with
  | [.va [true], .ro, .ro],[true],[],[]=>true
  |_,_,_,_=>false)&&fn.body.isSome&& !(fn.name== "runtime.NumGoroutine")&&fn.params.toList==[t,it,it]&&(Dw fn s)==[t]&&fn.nfree==0&& !Ao P t&&A9 P t==[t]&&CT P t==some el&& !Cc P el&&KV (DE P t) el K l&&F6 P t [true]&&fn.params.size==3
 |_,_=>false
theorem zDI{f t it el K:Nat}{l:List DT}(hk:gG Tryz.prog B5 f t it el K l=true)(B7:∀r,IW Tryz.prog B5 f r=true)(Jz:gF Tryz.prog f el K)(xs:List AV)(i j:Int)(h0:0<=i)(h1:i<j)(h2:j<=xs.length):
  Cm Tryz.prog B5 f [.sl xs, .int .i64 i, .int .i64 j] (.sl (xs.take i.toNat++xs.drop j.toNat)):=by
 unfold gG at hk;split at hk
 ·rename_i fn s hf hs;simp only[Ab,Bg,AM]at hk;obtain⟨⟨⟨⟨⟨⟨⟨⟨⟨⟨⟨⟨g1,g2⟩,g3⟩,g4⟩,g5⟩,g6⟩,g7⟩,g8⟩,g9⟩,g10⟩,g11⟩,g12⟩,g13⟩:=hk;have g11:=Pr g11;obtain⟨hm,hr,CA,B2⟩:s.b8=[.va [true], .ro, .ro]/\s.res=[true]/\s.ft=[]/\s.lo=[]:=by
   split at g1
   ·rename_i a b c d;exact⟨a,b,c,d⟩
   ·cases g1
  unfold Cm;rw[if_pos (KW f s hs)];refine⟨s,hs,fn,hf,g2,g3,by have:=B7 (xs.take i.toNat++xs.drop j.toNat);unfold IW at this;rw[hf,hs]at this;exact this,by simp[g6,g13],by simp[CA],λw vs rf lf A5 Ah hd _ B8 D3=> ?_⟩;rw[g4,CA,AE,hm,B2]at Ah;cases Ah with
  |lent h _ _ _=>cases h
  | @cons _ _ _ _ v1 vs1 _ _ f1 k1 rf1 lf1 BM a1 Ah=>
   cases Ah with
   |lent h _ _ _=>cases h
   | @cons _ _ _ _ v2 vs2 _ _ f2 k2 rf2 lf2 A8 a2 Ah=>
    cases Ah with
    |lent h _ _ _=>cases h
    | @cons _ _ _ _ v3 vs3 _ _ f3 k3 rf3 lf3 Hl a3 Ah=>
     cases Ah;obtain⟨rfl,r1⟩:=mX g7 g8 g9 g10 g11 a1;obtain⟨a2,rfl⟩:Rd w [v2] [AV.int .i64 i] f2/\k2=[]:=a2;obtain⟨us,rfl2,hI,a2⟩:=SS a2;obtain⟨rfl,rfl⟩:=PI a2;cases rfl2;obtain⟨a3,rfl⟩:Rd w [v3] [AV.int .i64 j] f3/\k3=[]:=a3;obtain⟨us,rfl3,hJ,a3⟩:=SS a3;obtain⟨rfl,rfl⟩:=PI a3;cases rfl3;obtain⟨p0,pl,⟨a,rfl,e1,rfl⟩|⟨g,cap,C,xs',N,rfl,e1,rfl,d1,d2,d3,d4,d5,d6,d7⟩⟩:=r1.inv
     ·cases e1;simp at h2;omega
     cases e1;rw[Az.ax]at d7 pl;have hR:Dl w el K g cap C xs.length (C.toList.take (xs.length*K)):=⟨d2,d3,d1,d4,rfl⟩
     have hc:=Jz w xs.length i.toNat j.toNat g cap C _ hR (by omega) (by omega) d6;rw[show((i.toNat:Nat):Int)=i by omega,show((j.toNat:Nat):Int)=j by omega]at hc;refine hc.mono ?_;rintro e w' ⟨C',rfl,⟨z1,z2,z3,z4,z5⟩,Bq⟩;have ET:(g::N).Nodup:=by simpa using B8
     have cW:g∉N:=(List.nodup_cons.1 ET).1;have fN:=d7.frame (w':=w') λb hb=>Bq.block b (d7.inb b hb) (λh=>by rw[List.mem_singleton]at h;subst h;exact cW hb);obtain⟨N1,N2',rfl,c1,_⟩:=fN.cut pl d5 (show i.toNat<=xs.length by omega);obtain⟨N1',N2,e3,_,c2⟩:=fN.cut pl d5 (show j.toNat<=xs.length by omega);have hlen:(xs.take i.toNat++xs.drop j.toNat).length=xs.length-(j.toNat-i.toNat):=by simp only[AP,Aw,BD];omega
     obtain⟨NA,NB,NC,eN,k1,_,k3⟩:=fN.split (i.toNat*K) ((j.toNat-i.toNat)*K);have ti:=Se d5 (show i.toNat<=xs.length by omega);have tj:=Se d5 (show j.toNat<=xs.length by omega);have Ew:i.toNat*K+(j.toNat-i.toNat)*K=j.toNat*K:=by rw[<-Nat.add_mul,show i.toNat+(j.toNat-i.toNat)=j.toNat by omega]
     have eA:(BJ xs.length l).take (i.toNat*K)=BJ i.toNat l:=by
      have hli:(BJ i.toNat l).length=i.toNat*K:=by rw[KS,pl]
      rw[oE l (show i.toNat<=xs.length by omega),<-hli];exact List.take_left
     have eC:(BJ xs.length l).drop (j.toNat*K)=BJ (xs.length-j.toNat) l:=by
      have hlj:(BJ j.toNat l).length=j.toNat*K:=by rw[KS,pl]
      rw[oE l (show j.toNat<=xs.length by omega),<-hlj];exact List.drop_left
     rw[eA,<-ti.1]at k1;rw[Ew,eC,<-tj.2]at k3;have BX:DC w' (BJ (xs.length-(j.toNat-i.toNat)) l) (C'.toList.take ((xs.length-(j.toNat-i.toNat))*K)) (Aq (xs.take i.toNat++xs.drop j.toNat)) (NA++NC):=by rw[<-z5,Sk,show xs.length-(j.toNat-i.toNat)=i.toNat+(xs.length-j.toNat) by omega,Nu];exact k1.app k3
     have MQ:(g::(NA++NC)).Sublist (g::(N1++N2')):=by rw[eN];refine List.Sublist.cons_cons _ ?_;rw[List.append_assoc];exact List.Sublist.append (List.Sublist.refl _) (List.sublist_append_right _ _)
     have Be:DC w' [.row el K (Az.of l)] [.slice (some ⟨g,0,none⟩) (xs.length-(j.toNat-i.toNat)) cap] [.sl (xs.take i.toNat++xs.drop j.toNat)] (g::(NA++NC)):=by
      have:=DC.row (w:=w') (e:=el) (z:=K) (l:=Az.of l) (g:=g) (cap:=cap) (C:=C') (ys:=xs.take i.toNat++xs.drop j.toNat) (N1:=NA++NC) (ts:=[]) (vs:=[]) (xs:=[]) (N:=[]) p0 (by rw[Az.ax];exact pl) z3 (by rw[hlen];exact z1) z2 z4 (λy hy=> ?_) (by
       rw[hlen,<-z5];intro u hu;rcases Ac.1 hu with hu|hu
       ·exact d6 u (Bt hu)
       ·exact d6 u (BO hu)) (by rw[hlen,Az.ax];exact BX) .nil
      ·rw[hlen]at this;simpa using this
      ·rcases Ac.1 hy with hy|hy
       ·exact d5 y (Bt hy)
       ·exact d5 y (BO hy)
     refine⟨_,rfl,⟨⟨_,[],[],g::(NA++NC),[],[],rfl,?_,?_,?_,?_,by simp⟩,Bq.weaken λb hb=> .inl (by simp at hb;simp[hb])⟩⟩
     ·rw[g5];show D7 Tryz.prog w' t s.res _ _ [] _;unfold D7;rw[hr,if_pos g12];refine⟨[.slice (some ⟨g,0,none⟩) (xs.length-(j.toNat-i.toNat)) cap],[.sl (xs.take i.toNat++xs.drop j.toNat)],by rw[g7];simp,?_⟩;rw[g8];have:=Cs.deep (P:=Tryz.prog) (t:=t) (ts:=[]) (fl:=[true]) (us:=[]) (ys:=[]) (rf:=[]) (hs:=[]) rfl g9 g10 g11 Be .nil;simpa using this
     ·rw[g4,CA,AE,hm];exact .va rfl (.ro rfl (.ro rfl .nil))
     ·rw[AE];exact ET.sublist MQ
     ·intro b hb;rw[AE]at hb;have Cb:=MQ.subset hb;refine⟨.inl (by simpa using Cb),?_⟩;have AH:b<w.heap.size:=by
       rcases Ae.1 Cb with rfl|Cb
       ·exact Dq d1
       ·exact d7.inb b Cb
      have:=Bq.size;omega
 ·cases hk
noncomputable def V4{α:Type}(xs:List α)(i j:Int):Option (List α):=AK (0<=i/\i<j/\j<=xs.length) (some (xs.take i.toNat++xs.drop j.toNat))
theorem zzS{f t it el K:Nat}{l:List DT}(hk:gG Tryz.prog B5 f t it el K l=true)(B7:∀r,IW Tryz.prog B5 f r=true)(Jz:gF Tryz.prog f el K){α:Type}{av:α->AV}{xs r:List α}{i j:Int}(h:V4 xs i j=some r):
  Cm Tryz.prog B5 f [.sl (xs.map av), .int .i64 i, .int .i64 j] (.sl (r.map av)):=by
 obtain⟨⟨h0,h1,h2⟩,h⟩:=F7 h;cases h;have:=zDI hk B7 Jz (xs.map av) i j h0 h1 (by simpa using h2);simpa[List.map_append,List.map_take,List.map_drop]using this
theorem zxW{f t it el K:Nat}{l:List DT}(hk:gD Tryz.prog B5 f t it el K l=true)(B7:∀r,IW Tryz.prog B5 f r=true)(Fm:NW Tryz.prog f el K){α:Type}{av:α->AV}{xs ys r:List α}{i:Int}(h:H5 xs i ys=some r):
  Cm Tryz.prog B5 f [.sl (xs.map av), .int .i64 i, .sl (ys.map av)] (.sl (r.map av)):=by
 obtain⟨⟨h0,h1,h2,h3⟩,h⟩:=F7 h;cases h;have:=zCJ hk B7 Fm (xs.map av) (ys.map av) i h0 (by simpa using h1) (by cases ys with|nil=>simp at h2|cons=>simp) (by simpa using h3);simpa[List.map_append,List.map_take,List.map_drop]using this
class Ik(P:Program)(el K:Nat)(st it ov:outParam Nat):Prop where
 u:P.underlying st=some (.slice el)
 v:P.underlying it=some (.int .i64)
 i:∃i z,P.info? el=some i/\i.size=K/\i.zero=some z/\z.cells.size=K/\i.bytes<=1000/\0<K
 o:∃fn bt,P.funcs[ov]?=some fn/\(fn.name== "runtime.NumGoroutine")=false/\fn.body.isNone=true/\Extern.findNext fn=none/\Extern.find fn=some (Extern.SlicesOverlaps.overlaps #[st,st] #[bt])
def tT(P:Program)(el K:Nat):Bool:=match P.info? el with
 |some i=>(match i.zero with|some z=>i.size==K&&z.cells.size==K&&decide (i.bytes<=1000)&&decide (0<K)|none=>false)
 |none=>false
theorem qD{P:Program}{el K:Nat}(h:tT P el K=true):∃i z,P.info? el=some i/\i.size=K/\i.zero=some z/\z.cells.size=K/\i.bytes<=1000/\0<K:=by
 unfold tT at h;split at h
 ·rename_i i hi;split at h
  ·rename_i z hz;simp only[Ab,AM,AR]at h;exact⟨i,z,hi,h.1.1.1,hz,h.1.1.2,h.1.2,h.2⟩
  ·cases h
 ·cases h
def Xw(P:Program)(f el K:Nat):Prop:= ∀(w:World) (v:Value) (n:Nat) (cs:List Value) (own:List Nat) (vb vc m:Nat) (VC:Array Value) (vs:List Value),cs.length=n*K->
 ((n=0/\ ∃q,v= .slice q 0 0)\/ ∃g cap C,v= .slice (some ⟨g,0,none⟩) n cap/\Dl w el K g cap C n cs/\g∈own)->Dl w el K vb vc VC m vs->0<m->(n+m)*1000<=140737488355328->(∀u∈vs,u.oneCell'=true)->
 Calls P f #[v, .int .i64 n, .slice (some ⟨vb,0,none⟩) m vc] w λe w'=> ∃u,e= .returned u/\OY w w' el K own u (n+m) (cs++vs)
def Xz(P:Program)(f el K:Nat):Prop:= ∀(w:World) (n i g cap:Nat) (C:Array Value) (cs:List Value) (own:List Nat) (vb vc m:Nat) (VC:Array Value) (vs:List Value),Dl w el K g cap C n cs->i<n->cap<n+m->Dl w el K vb vc VC m vs->0<m->(n+m)*1000<=140737488355328->
 (∀u∈vs,u.oneCell'=true)->(∀u∈cs,u.oneCell'=true)->
 Calls P f #[.slice (some ⟨g,0,none⟩) n cap, .int .i64 i, .slice (some ⟨vb,0,none⟩) m vc] w λe w'=> ∃u,e= .returned u/\OY w w' el K own u (n+m) (cs.take (i*K)++vs++cs.drop (i*K))
def Xx(P:Program)(f el K:Nat):Prop:= ∀(w:World) (n i g cap:Nat) (C:Array Value) (cs:List Value) (own:List Nat) (vb vc m:Nat) (VC:Array Value) (vs:List Value),Dl w el K g cap C n cs->g∈own->i<n->n+m<=cap->vb≠g->Dl w el K vb vc VC m vs->0<m->
 (∀u∈vs,u.oneCell'=true)->(∀u∈cs,u.oneCell'=true)->
 Calls P f #[.slice (some ⟨g,0,none⟩) n cap, .int .i64 i, .slice (some ⟨vb,0,none⟩) m vc] w λe w'=> ∃u,e= .returned u/\OY w w' el K own u (n+m) (cs.take (i*K)++vs++cs.drop (i*K))
theorem oM{P:Program}{f el K:Nat}(h1:Xw P f el K)(h2:Xz P f el K)(h3:Xx P f el K):NW P f el K:=by
 intro w v n i cs own vb vc m VC vs Ax AY Ce hv Qi hm hb GK GJ;by_cases he:i=n
 ·subst he;refine(h1 w v i cs own vb vc m VC vs Ax AY hv hm hb GK).mono ?_;rintro e w' ⟨u,rfl,h⟩;refine⟨u,rfl,?_⟩;rw[List.take_of_length_le (by omega),List.drop_eq_nil_of_le (by omega),AE];exact h
 ·rcases AY with⟨rfl,_⟩|⟨g,cap,C,rfl,hr,hg⟩
  ·omega
  ·by_cases hc:n+m<=cap
   ·exact h3 w n i g cap C cs own vb vc m VC vs hr hg (by omega) hc (Qi g hg) hv hm GK GJ
   ·exact h2 w n i g cap C cs own vb vc m VC vs hr (by omega) (by omega) hv hm hb GK GJ
theorem zCc{P:Program}{el K st it ov:Nat}[hI:Ik P el K st it ov]{w:World}{v:Value}{n:Nat}{cs:List Value}{own:List Nat}{vb vc m:Nat}{VC:Array Value}{vs:List Value}(Ax:cs.length=n*K)
  (AY:(n=0/\ ∃q,v= .slice q 0 0)\/ ∃g cap C,v= .slice (some ⟨g,0,none⟩) n cap/\Dl w el K g cap C n cs/\g∈own) (hv:Dl w el K vb vc VC m vs) (hm:0<m) (hb:(n+m)*1000<=140737488355328) (GK:∀u∈vs,u.oneCell'=true):
  ∃v' w1,(Builtin.append_ #[st,st] st #[v, .slice (some ⟨vb,0,none⟩) m vc]).run P w= .ok v' w1/\OY w w1 el K own v' (n+m) (cs++vs):=by
 obtain⟨i0,z0,hi,hs,hz,CY,E5,hK⟩:=hI.i;have De:Src w i0.size (some ⟨vb,0,none⟩) m vs:= .inr ⟨_,rfl,by rw[hs];exact hv.len,λj u hj=>hv.cell 0 j u (by simpa using hj),GK⟩;obtain⟨v',w1,hr,AO⟩:=SH (P:=P) w st st el i0 z0 hI.u hi hz (by rw[CY,hs]) (by omega) (λb=>b∈own) v n cs (by rw[hs];exact Ax)
  (by
   rcases AY with h|⟨g,cap,C,rfl,⟨h1,h2,h3,h4,h5⟩,h6⟩
   ·exact .inl h
   ·exact .inr ⟨g,cap,C,rfl,h1,h2,h3,by rw[hs];exact h4,by rw[hs];exact h5,h6⟩)
  (some ⟨vb,0,none⟩) m vc vs De (by simp only[maxLen];omega) (by have:=Nat.mul_le_mul_left (n+m) E5;omega)
 refine⟨v',w1,hr,?_⟩;rcases AO with⟨_,_,h⟩|⟨g,cap,C,rfl,h1,h2,h3,h4,h5,h6,h7⟩
 ·omega
 ·refine⟨g,cap,C,rfl,⟨h1,h2,h3,by rw[hs]at h4;exact h4,by rw[hs]at h5;exact h5.symm⟩,?_,h7.symm.imp id λh=>by omega⟩;refine⟨h6.os,h6.tape,h6.output,h6.size,λb hb hn=>h6.block b hb λe=> ?_⟩;cases e;rcases h7 with h7|h7
  ·omega
  ·exact hn h7
theorem zDD{P:Program}{el K st it ov:Nat}[hI:Ik P el K st it ov]{w:World}{n i g cap:Nat}{C:Array Value}{cs:List Value}(own:List Nat){vb vc m:Nat}{VC:Array Value}{vs:List Value}(AY:Dl w el K g cap C n cs)(Ce:i<n)(BQ:cap<n+m)
  (hv:Dl w el K vb vc VC m vs) (hm:0<m) (hb:(n+m)*1000<=140737488355328) (GK:∀u∈vs,u.oneCell'=true) (GJ:∀u∈cs,u.oneCell'=true):
  ∃(G:Nat) (ROW ROW2 ROW3:Array Value),n+m<=G/\G<=9223372036854775807/\
   (∀ty,(Builtin.append_ #[st,it] ty #[.slice (some ⟨g,0,none⟩) i cap, .int .i64 ((n:Int)+(m:Int)-(i:Int))]).run P w= .ok (.slice (some ⟨w.heap.size,0,none⟩) (n+m) G) (w.drew.alloc (.cells ROW el)))/\
   (∀(W:World),W.heap=(w.alloc (.cells ROW el)).heap-> ∀ty dc,(Builtin.copy_ #[st,st] ty #[.slice (some ⟨w.heap.size,i*K,none⟩) (n+m-i) dc, .slice (some ⟨vb,0,none⟩) m vc]).run P W= .ok (goInt m) (W.setRow w.heap.size ROW2))/\
   (∀(W:World),W.heap=((w.alloc (.cells ROW el)).setRow w.heap.size ROW2).heap-> ∀ty dc sc,(Builtin.copy_ #[st,st] ty #[.slice (some ⟨w.heap.size,(i+m)*K,none⟩) (n+m-(i+m)) dc, .slice (some ⟨g,i*K,none⟩) (n-i) sc]).run P W= .ok (goInt ((n-i:Nat):Int)) (W.setRow w.heap.size ROW3))/\
   (∀W:World,W.os=w.os->W.tape=w.tape->W.output=w.output->W.heap=(((w.alloc (.cells ROW el)).setRow w.heap.size ROW2).setRow w.heap.size ROW3).heap->OY w W el K own (.slice (some ⟨w.heap.size,0,none⟩) (n+m) G) (n+m) (cs.take (i*K)++vs++cs.drop (i*K)))/\
   ((w.alloc (.cells ROW el)).drew).heap=(w.alloc (.cells ROW el)).heap/\(((w.alloc (.cells ROW el)).drew.setRow w.heap.size ROW2).drew).heap=((w.alloc (.cells ROW el)).setRow w.heap.size ROW2).heap:=by
 obtain⟨i0,z0,hi,hs,hz,CY,E5,hK⟩:=hI.i;have Ax:=AY.len;have En:=hv.len;have TA:=AY;obtain⟨Lt,FZ,hg,Jv,By⟩:=TA;have JF:g<w.heap.size:=Dq hg;have hvw:vb<w.heap.size:=Dq hv.2.2.1;have Bz:(P.info? el).map (·.size)=some K:=by rw[hi];simp[hs]
 have rH:i+(n+m-i)=n+m:=by omega
 have WX:(n+m)*i0.bytes<=140737488355328:=Nat.le_trans (Nat.mul_le_mul_left _ E5) hb;have WY:(n+m-i)*i0.bytes<=140737488355328:=Nat.le_trans (Br _ (by omega)) WX;have dD:i*K<=n*K:=Br _ (by omega);have hold:(Builtin.firstCells i0.size i (.slice (some ⟨g,0,none⟩) i cap)).run P w.drew= .ok (cs.take (i*K)).toArray w.drew:=by
  rw[hs];exact run_firstCells_some w.drew K i ⟨g,0,none⟩ i cap (cs.take (i*K)) (by rw[Aw];omega) (λj v hj=>by
   rw[List.getElem?_take]at hj;split at hj
   ·exact AY.cell 0 j v (by simpa using hj)
   ·cases hj)
 have Qg:∀ty,(Builtin.append_ #[st,it] ty #[.slice (some ⟨g,0,none⟩) i cap, .int .i64 ((n:Int)+(m:Int)-(i:Int))]).run P w=
   .ok (.slice (some ⟨w.heap.size,0,none⟩) (n+m) (grownCap w (n+m) cap el)) (w.drew.alloc (.cells ((cs.take (i*K)).toArray++Builtin.zeroCells z0.cells (n+m-i)++Builtin.zeroCells z0.cells (grownCap w (n+m) cap el-(n+m))) el)):=λty=>by
  have h:=Lib.run_append_grow_zeros w st it ty el i0 z0 .i64 .i64 hI.u hI.v hi hz (some ⟨g,0,none⟩) i cap (cs.take (i*K)) hold (n+m-i) (by omega) (by omega) (by omega) (by omega) (by omega) (by rw[rH];exact growslice_fits BQ WX);rw[rH]at h;rw[show(n:Int)+(m:Int)-(i:Int)=((n+m-i:Nat):Int) by omega];exact h
 obtain⟨G,hG⟩:∃G,G=grownCap w (n+m) cap el:=⟨_,rfl⟩
 obtain⟨ROW,Ob⟩:∃ROW:Array Value,ROW=(cs.take (i*K)).toArray++Builtin.zeroCells z0.cells (n+m-i)++Builtin.zeroCells z0.cells (G-(n+m)):=⟨_,rfl⟩
 have WR:n+m<=G:=by rw[hG];exact grownCap_ge w _ _ _
 have Tk:G<=maxLen:=by rw[hG];exact grownCap_le_maxLen w (n+m) cap el (by unfold maxLen;omega)
 rw[<-hG]at Qg;rw[<-Ob]at Qg;have e1:(i+m)*K=i*K+m*K:=Nat.add_mul ..;have e2:(n+m)*K=n*K+m*K:=Nat.add_mul ..;have e3:(n+m-i)*K=n*K+m*K-i*K:=by rw[Nat.sub_mul,e2]
 have e4:(n-i)*K=n*K-i*K:=Nat.sub_mul ..;have e5:(G-(n+m))*K=G*K-(n*K+m*K):=by rw[Nat.sub_mul,e2]
 have e6:n*K+m*K<=G*K:=by rw[<-e2];exact Br _ WR
 have hRs:ROW.size=G*K:=by rw[Ob];simp only[Array.size_append,List.size_toArray,Aw,size_zeroCells,CY];omega
 obtain⟨ROW2,Tp⟩:∃R:Array Value,R=(ROW.toList.take (i*K)++vs++ROW.toList.drop (i*K+vs.length)).toArray:=⟨_,rfl⟩
 obtain⟨ROW3,bV⟩:∃R:Array Value,R=(ROW2.toList.take ((i+m)*K)++cs.drop (i*K)++ROW2.toList.drop ((i+m)*K+(cs.drop (i*K)).length)).toArray:=⟨_,rfl⟩
 have bU:ROW2.size=G*K:=by rw[Tp];simp only[List.size_toArray,AP,Aw,BD,BC];omega
 have bW:ROW3.size=G*K:=by rw[bV];simp only[List.size_toArray,AP,Aw,BD,BC];omega
 obtain⟨N,hN⟩:∃N,N=w.heap.size:=⟨_,rfl⟩
 have hA:(w.alloc (.cells ROW el)).heap[N]?=some (.cells ROW el (0,0)):=by rw[hN];exact heap_alloc_new w _
 have hO:∀k,k<N->(w.alloc (.cells ROW el)).heap[k]?=w.heap[k]?:=λk hk=>Below.heap_alloc w _ k (by omega);have hB:((w.alloc (.cells ROW el)).setRow N ROW2).heap[N]?=some (.cells ROW2 el (0,0)):=setRow_heap _ _ _ _ _ _ hA;have qR:∀k,k<N->((w.alloc (.cells ROW el)).setRow N ROW2).heap[k]?=w.heap[k]?:=λk hk=>by rw[setRow_other _ _ _ _ (by omega)];exact hO k hk
 rw[<-hN]at Qg ⊢;refine⟨G,ROW,ROW2,ROW3,WR,Tk,Qg,λW hW ty dc=> ?_,λW hW ty dc sc=> ?_,λW w1 w2 w3 hW=> ?_,rfl,rfl⟩
 ·have h:=Y3 (P:=P) W st st ty el K N (i*K) (n+m-i) dc ⟨vb,0,none⟩ m vc ROW el vs hI.u Bz (by rw[hW];exact hA) (by rw[En,show Nat.min m (n+m-i)=m from Nat.min_eq_left (by omega)])
   (λj v hj=>by rw[World.cell?_of_block (w:=w) (by rw[Addr.add_lit,hW];exact hO vb (by omega))];exact hv.cell 0 j v (by simpa using hj)) (by rw[hRs,En];omega) GK
  rw[show Nat.min m (n+m-i)=m from Nat.min_eq_left (by omega),<-Tp]at h;exact h
 ·have h:=Y3 (P:=P) W st st ty el K N ((i+m)*K) (n+m-(i+m)) dc ⟨g,i*K,none⟩ (n-i) sc ROW2 el (cs.drop (i*K)) hI.u Bz (by rw[hW];exact hB) (by rw[BD,Ax,show Nat.min (n-i) (n+m-(i+m))=n-i from Nat.min_eq_left (by omega)];omega)
   (λj v hj=>by rw[World.cell?_of_block (w:=w) (by rw[Addr.add_lit,hW];exact qR g (by omega))];exact AY.cell (i*K) j v hj) (by rw[bU,BD,Ax];omega) (λv hv=>GJ v (BO hv))
  rw[show Nat.min (n-i) (n+m-(i+m))=n-i from Nat.min_eq_left (by omega),<-bV]at h;exact h
 ·refine⟨N,G,ROW3,rfl,⟨WR,Tk,by rw[hW];exact setRow_heap _ _ _ _ _ _ hB,bW,?_⟩,⟨w1,w2,w3,by rw[hW];simp,λk hk _=>by rw[hW,setRow_other _ _ _ _ (by omega)];exact qR k (by omega)⟩, .inr (by omega)⟩;have h:=two ((Builtin.zeroCells z0.cells (n+m-i)).toList++(Builtin.zeroCells z0.cells (G-(n+m))).toList) cs vs (i*K) (m*K) (n*K) ROW.toList (by rw[Ob];simp) Ax dD En (by simp only[AP,BC,size_zeroCells,CY];omega);rw[bV,Tp,Nat.add_mul n m,Nat.add_mul i m];exact h.symm
theorem zDR{P:Program}{el K st it ov:Nat}[hI:Ik P el K st it ov]{w:World}{n i g cap:Nat}{C:Array Value}{cs:List Value}{own:List Nat}{vb vc m:Nat}{VC:Array Value}{vs:List Value}(AY:Dl w el K g cap C n cs)(EM:g∈own)(Ce:i<n)(BQ:n+m<=cap)(Qi:vb≠g)
  (hv:Dl w el K vb vc VC m vs) (hm:0<m) (GK:∀u∈vs,u.oneCell'=true) (GJ:∀u∈cs,u.oneCell'=true):
  ∃C1 C2:Array Value,(∀lb cb,(callFunc ov #[.slice (some ⟨vb,0,none⟩) m vc, .slice (some ⟨g,(i+m)*K,none⟩) lb cb]).run P w= .ok (.value (.bool false)) w)/\
   (∀(W:World),W.heap=w.heap-> ∀ty dc sc,(Builtin.copy_ #[st,st] ty #[.slice (some ⟨g,(i+m)*K,none⟩) (n+m-(i+m)) dc, .slice (some ⟨g,i*K,none⟩) (n+m-i) sc]).run P W= .ok (goInt ((n-i:Nat):Int)) (W.setRow g C1))/\
   (∀(W:World),W.heap=(w.setRow g C1).heap-> ∀ty dc,(Builtin.copy_ #[st,st] ty #[.slice (some ⟨g,i*K,none⟩) (n+m-i) dc, .slice (some ⟨vb,0,none⟩) m vc]).run P W= .ok (goInt m) (W.setRow g C2))/\
   (∀W:World,W.os=w.os->W.tape=w.tape->W.output=w.output->W.heap=((w.setRow g C1).setRow g C2).heap->OY w W el K own (.slice (some ⟨g,0,none⟩) (n+m) cap) (n+m) (cs.take (i*K)++vs++cs.drop (i*K)))/\
   (w.drew).heap=w.heap/\(w.drew.setRow g C1).heap=(w.setRow g C1).heap:=by
 obtain⟨i0,z0,hi,hs,hz,CY,E5,hK⟩:=hI.i;obtain⟨fn,bt,f1,f2,f3,f4,f5⟩:=hI.o;have Ax:=AY.len;have En:=hv.len;have TA:=AY;obtain⟨Lt,FZ,hg,Jv,By⟩:=TA;have JF:g<w.heap.size:=Dq hg;have Bz:(P.info? el).map (·.size)=some K:=by rw[hi];simp[hs]
 have Uo:=hv.2.2.1;have dD:i*K<=n*K:=Br _ (by omega);have e1:(i+m)*K=i*K+m*K:=Nat.add_mul ..;have e2:(n+m)*K=n*K+m*K:=Nat.add_mul ..;have e3:(n+m-i)*K=n*K+m*K-i*K:=by rw[Nat.sub_mul,e2]
 have e4:(n-i)*K=n*K-i*K:=Nat.sub_mul ..;have e6:n*K+m*K<=cap*K:=by rw[<-e2];exact Br _ BQ
 have e7:0<cap*K:=Nat.mul_pos (by omega) hK;obtain⟨C1,Io⟩:∃R:Array Value,R=(C.toList.take ((i+m)*K)++cs.drop (i*K)++C.toList.drop ((i+m)*K+(cs.drop (i*K)).length)).toArray:=⟨_,rfl⟩
 obtain⟨C2,Mt⟩:∃R:Array Value,R=(C1.toList.take (i*K)++vs++C1.toList.drop (i*K+vs.length)).toArray:=⟨_,rfl⟩
 have K9:C1.size=cap*K:=by rw[Io];simp only[List.size_toArray,AP,Aw,BD,BC];omega
 have La:C2.size=cap*K:=by rw[Mt];simp only[List.size_toArray,AP,Aw,BD,BC];omega
 have hB:(w.setRow g C1).heap[g]?=some (.cells C1 el (0,0)):=setRow_heap _ _ _ _ _ _ hg;have Lr:Nat.min (n+m-i) (n+m-(i+m))=n-i:=by rw[show Nat.min (n+m-i) (n+m-(i+m))=n+m-(i+m)from Nat.min_eq_right (by omega)];omega
 refine⟨C1,C2,λlb cb=> ?_,λW hW ty dc sc=> ?_,λW hW ty dc=> ?_,λW w1 w2 w3 hW=> ?_,rfl,rfl⟩
 ·rw[run_callFunc_extern f1 f2 f3 f4 f5,Lib.run_overlaps_apart w st bt el hI.u K (λw=>by simp[Go.sizeOf,typeInfo,hi,hs]) ⟨vb,0,none⟩ ⟨g,(i+m)*K,none⟩ m vc lb cb Qi el el VC.size C.size (by simp[World.shape?,Uo]) (by simp[World.shape?,hg]) (by omega) (by simp[World.frozen?,Uo]) (by simp[World.frozen?,Uo])];rfl
 ·have h:=Y3 (P:=P) W st st ty el K g ((i+m)*K) (n+m-(i+m)) dc ⟨g,i*K,none⟩ (n+m-i) sc C el (cs.drop (i*K)) hI.u Bz (by rw[hW];exact hg) (by rw[BD,Ax,Lr];omega)
   (λj v hj=>by rw[World.cell?_of_block (w:=w) (by rw[hW])];exact AY.cell (i*K) j v hj) (by rw[Jv,BD,Ax];omega) (λv hv=>GJ v (BO hv))
  rw[Lr,<-Io]at h;exact h
 ·have h:=Y3 (P:=P) W st st ty el K g (i*K) (n+m-i) dc ⟨vb,0,none⟩ m vc C1 el vs hI.u Bz (by rw[hW];exact hB) (by rw[En,show Nat.min m (n+m-i)=m from Nat.min_eq_left (by omega)])
   (λj v hj=>by rw[World.cell?_of_block (w:=w) (by rw[Addr.add_lit,hW];exact setRow_other _ _ _ _ (by simpa using Qi))];exact hv.cell 0 j v (by simpa using hj)) (by rw[K9,En];omega) GK
  rw[show Nat.min m (n+m-i)=m from Nat.min_eq_left (by omega),<-Mt]at h;exact h
 ·have no:∀k,¬k∈own->k≠g:=λk hn e=>hn (e▸EM);refine⟨g,cap,C2,rfl,⟨BQ,FZ,by rw[hW];exact setRow_heap _ _ _ _ _ _ hB,La,?_⟩,⟨w1,w2,w3,by rw[hW];simp,λk hk hn=>by rw[hW,setRow_other _ _ _ _ (by first|exact no k hn|exact(no k hn).symm),setRow_other _ _ _ _ (by first|exact no k hn|exact(no k hn).symm)]⟩, .inl EM⟩;have h:=zGY C.toList cs vs (i*K) (m*K) (n*K) By dD En (by rw[BC,Jv];omega);rw[Mt,Io,Nat.add_mul n m,Nat.add_mul i m];exact h.symm
instance inf_Held:Ik Tryz.prog 108 5 48 3 285:=⟨Tryz.underlying48,Tryz.underlying3,qD (by kernel_rfl),_,4,Tryz.func285,by kernel_rfl,by kernel_rfl,by kernel_rfl,by kernel_rfl⟩
instance inf_Told:Ik Tryz.prog 53 3 49 3 307:=⟨Tryz.underlying49,Tryz.underlying3,qD (by kernel_rfl),_,4,Tryz.func307,by kernel_rfl,by kernel_rfl,by kernel_rfl,by kernel_rfl⟩
instance inf_Cell:Ik Tryz.prog 146 2 47 3 319:=⟨Tryz.underlying47,Tryz.underlying3,qD (by kernel_rfl),_,4,Tryz.func319,by kernel_rfl,by kernel_rfl,by kernel_rfl,by kernel_rfl⟩
set_option maxHeartbeats 16000000 in
theorem pH:Xw Tryz.prog 252 108 5/\Xw Tryz.prog 282 53 3/\Xw Tryz.prog 306 146 2:=by
 refine⟨?_,?_,?_⟩<;>(
  intro w v n cs own vb vc m VC vs Ax AY hv hm hb GK;obtain⟨v',w1,hr,fin⟩:=zCc (P:=Tryz.prog) Ax AY hv hm hb GK;have Xi: ¬((m:Int)=0):=by omega
  clear hv GK Ax;rcases AY with⟨rfl,_|⟨qb,qo,qs⟩,rfl⟩|⟨g,cap,C,rfl,_,_⟩<;>(
   first|go_enter Tryz.func252,Tryz.ntmps252|go_enter Tryz.func282,Tryz.ntmps282|go_enter Tryz.func306,Tryz.ntmps306
   go_wp2_with (at_builtin;refine Lib.wpList_append_run _ rfl _ _ _ _ rfl _ _ rfl rfl _ _ hr ?_)
   all_goals (go_ret;exact⟨_,rfl,fin⟩)))
set_option maxHeartbeats 16000000 in
theorem oZ:Xz Tryz.prog 252 108 5/\Xz Tryz.prog 282 53 3/\Xz Tryz.prog 306 146 2:=by
 refine⟨?_,?_,?_⟩<;>(
  intro w n i g cap C cs own vb vc m VC vs AY Ce BQ hv hm hb GK GJ;obtain⟨G,ROW,ROW2,ROW3,WR,hG64,Qg,cL,TF,fin,qL,bO⟩:=zDD (P:=Tryz.prog) own AY Ce BQ hv hm hb GK GJ;obtain⟨Lt,FZ,hg,Jv, -⟩:=AY;have JF:=Dq hg;have Xi: ¬((m:Int)=0):=by omega
  have OU: ¬((i:Int)=(n:Int)):=by omega
  have hz3:(cap:Int)<(n:Int)+(m:Int):=by omega
  have hGi: ¬(G=i):=by omega
  have hGim: ¬(G=i+m):=by omega
  have TC: ¬(cap=i):=by omega
  have Qj:IntKind.i64.wrap ((i:Int)+(m:Int))=(i:Int)+(m:Int):=by rw[IntKind.wrap_i64];omega
  have Dy:(0:Int)<=(i:Int)+(m:Int):=by omega
  have dF:i<=n:=by omega
  have Qh:((i:Int)+(m:Int)).toNat=i+m:=by omega
  have Of:(i:Int)<=(n:Int):=by omega
  first|go_enter Tryz.func252,Tryz.ntmps252|go_enter Tryz.func282,Tryz.ntmps282|go_enter Tryz.func306,Tryz.ntmps306
  go_wp2_with (first
   |(at_builtin;refine Lib.wpList_append_run _ rfl _ _ _ _ rfl _ _ rfl rfl _ _ (Qg _) ?_)
   |(at_builtin;refine lU _ rfl _ _ _ _ rfl _ _ rfl rfl (cL _ qL _ _) ?_)
   |(at_builtin;refine lU _ rfl _ _ _ _ rfl _ _ rfl rfl (TF _ rfl _ _ _) ?_))
  go_region_law (refine yG rfl _ _ _ _ rfl _ _ (by simp[Act.eval,Act.put]) (by simp[Act.eval,Act.put]) (TF _ bO _ (G-(i+m)) (cap-i)) ?_)
  go_wp2
  go_ret
  exact⟨_,rfl,fin _ rfl rfl rfl rfl⟩)
set_option maxHeartbeats 16000000 in
theorem n8:Xx Tryz.prog 252 108 5/\Xx Tryz.prog 282 53 3/\Xx Tryz.prog 306 146 2:=by
 refine⟨?_,?_,?_⟩<;>(
  intro w n i g cap C cs own vb vc m VC vs AY EM Ce BQ Qi hv hm GK GJ;obtain⟨C1,C2,eE,cJ,cK,fin,bO,hF2⟩:=zDR (P:=Tryz.prog) AY EM Ce BQ Qi hv hm GK GJ;obtain⟨Lt,Tw,hg,Jv, -⟩:=AY;have Tw:cap<=9223372036854775807:=Tw;have JF:=Dq hg;have Xi: ¬((m:Int)=0):=by omega
  have OU: ¬((i:Int)=(n:Int)):=by omega
  have hz3: ¬((cap:Int)<(n:Int)+(m:Int)):=by omega
  have TC: ¬(cap=i):=by omega
  have hcim: ¬(cap=i+m):=by omega
  have Qj:IntKind.i64.wrap ((i:Int)+(m:Int))=(i:Int)+(m:Int):=by rw[IntKind.wrap_i64];omega
  have Dy:(0:Int)<=(i:Int)+(m:Int):=by omega
  have dF:i<=n:=by omega
  have Qh:((i:Int)+(m:Int)).toNat=i+m:=by omega
  have Of:(i:Int)<=(n:Int):=by omega
  have hb4:(i:Int)<=(n:Int)+(m:Int):=by omega
  clear hg hv
  first|go_enter Tryz.func252,Tryz.ntmps252|go_enter Tryz.func282,Tryz.ntmps282|go_enter Tryz.func306,Tryz.ntmps306
  go_wp2_with (simp only[eE])
  go_region_law (refine yG rfl _ _ _ _ rfl _ _ (by simp[Act.eval,Act.put]) (by simp[Act.eval,Act.put]) (cJ _ bO _ (cap-(i+m)) (cap-i)) ?_)
  go_wp2_with (at_builtin;refine lU _ rfl _ _ _ _ rfl _ _ rfl rfl (cK _ hF2 _ _) ?_)
  go_ret
  exact⟨_,rfl,fin _ rfl rfl rfl rfl⟩)
theorem zCP:NW Tryz.prog 252 108 5:=oM pH.1 oZ.1 n8.1
theorem zCN:NW Tryz.prog 282 53 3:=oM pH.2.1 oZ.2.1 n8.2.1
theorem zCg:NW Tryz.prog 306 146 2:=oM pH.2.2 oZ.2.2 n8.2.2
theorem zBP:∃i z,Tryz.prog.info? 108=some i/\i.size=5/\i.zero=some z/\z.cells.size=5/\ ∀u∈z.cells,u.oneCell'=true:=by
 have h:(match Tryz.prog.info? 108 with|some i=>(match i.zero with|some z=>i.size==5&&z.cells.size==5&&z.cells.all (λu=>u.oneCell')|none=>false)|none=>false)=true:=by kernel_rfl
 split at h
 ·rename_i i hi;split at h
  ·rename_i z hz;simp only[Ab,AM,Array.all_eq_true_iff_forall_mem]at h;exact⟨i,z,hi,h.1.1,hz,h.1.2,h.2⟩
  ·cases h
 ·cases h
set_option maxHeartbeats 4000000 in
theorem zCS:gF Tryz.prog 281 108 5:=by
 intro w n i j g cap C cs AY Ew hjn h1;obtain⟨i0,z0,hi,hs,hz,CY,sE⟩:=zBP;have hv:∀w,(zeroValue 108).run Tryz.prog w= .ok z0 w:=λw=>by simp[zeroValue,typeInfo,hi,hz]
 obtain⟨d,rfl⟩:∃d,j=i+d:=⟨j-i,by omega⟩
 obtain⟨m,rfl⟩:∃m,n=i+d+m:=⟨n-(i+d),by omega⟩
 have Ax:=AY.len;have TA:=AY;obtain⟨Lt,FZ,hg,Jv,By⟩:=TA;have hcm':cap<=9223372036854775807:=FZ;have hmul:=Br 5 Lt;obtain⟨news,C8⟩:∃s,s=cs.drop ((i+d)*5):=⟨_,rfl⟩
 have JR:news.length=m*5:=by rw[C8,BD,Ax];omega
 have qI:∀u∈news,u.oneCell'=true:=λu hu=>by rw[C8]at hu;exact h1 u (BO hu)
 obtain⟨C1,Io⟩:∃R:Array Value,R=(C.toList.take (i*5)++news++C.toList.drop (i*5+news.length)).toArray:=⟨_,rfl⟩
 have K9:C1.size=cap*5:=by rw[Io];simp only[List.size_toArray,AP,Aw,BD,BC];omega
 obtain⟨A,hA,De⟩:∃A:Addr,(if cap=i+d then some (⟨g,0,none⟩:Addr)else some ⟨g,(i+d)*5,none⟩)=some A/\ ∀q u,news[q]?=some u->w.cell? (A.add q)=some u:=by
  by_cases h:cap=i+d
  ·refine⟨⟨g,0,none⟩,by simp[h],λq u hu=> ?_⟩;have Ck:m=0:=by omega
   have h0:news.length=0:=by rw[JR,Ck,Nat.zero_mul]
   rw[List.length_eq_zero_iff.1 h0]at hu;simp at hu
  ·refine⟨⟨g,(i+d)*5,none⟩,by simp[h],λq u hu=> ?_⟩;exact AY.cell ((i+d)*5) q u (by rw[<-C8];exact hu)
 have I1:∀(W:World),W.heap=w.heap-> ∀ty,(Builtin.append_ #[48,48] ty #[.slice (some ⟨g,0,none⟩) i cap, .slice (some A) m (cap-(i+d))]).run Tryz.prog W= .ok (.slice (some ⟨g,0,none⟩) (i+m) cap) (W.setRow g C1):=λW hW ty=>by rw[Io];exact zql W 48 ty 108 i0 Tryz.underlying48 hi 5 hs g i cap A m (cap-(i+d)) C news (by rw[hW];exact hg) JR (λq u hu=>by rw[World.cell?_of_block (w:=w) (by rw[hW])];exact De q u hu) qI (by omega) (by rw[Jv,JR];omega)
 obtain⟨W1,Ts⟩:∃W1,W1=w.drew.setRow g C1:=⟨_,rfl⟩
 have Oc:W1.heap[g]?=some (.cells C1 108 (0,0)):=by rw[Ts];exact setRow_heap _ _ _ _ _ _ hg
 obtain⟨C2,Mt⟩:∃R:Array Value,R=(C1.toList.take ((i+m)*5)++(Builtin.zeroCells z0.cells d).toList++C1.toList.drop ((i+m)*5+(Builtin.zeroCells z0.cells d).toList.length)).toArray:=⟨_,rfl⟩
 have La:C2.size=cap*5:=by rw[Mt];simp only[List.size_toArray,AP,Aw,BD,BC,size_zeroCells,CY];omega
 have rA:∀ty N c,N=d->(Builtin.clear_ #[48] ty #[.slice (some ⟨g,(i+m)*5,none⟩) N c]).run Tryz.prog W1= .ok (.tuple #[]) (W1.setRow g C2):=λty N c hN=>by subst hN;rw[Mt];exact zy1 W1 48 108 ty z0 Tryz.underlying48 hv sE g ((i+m)*5) N c C1 (by omega) Oc (by rw[CY,K9];omega)
 have fin:∀W:World,W.os=w.os->W.tape=w.tape->W.output=w.output->W.heap=(W1.setRow g C2).heap-> ∃C',Dl W 108 5 g cap C' (i+m) (cs.take (i*5)++cs.drop ((i+d)*5))/\Mod [g] w W:=λW w1 w2 w3 hW=>by
  refine⟨C2,⟨by omega,FZ,by rw[hW];exact setRow_heap _ _ _ _ _ _ Oc,La,?_⟩,w1,w2,w3,by rw[hW,Ts];simp,λk hk hn=>by rw[hW,setRow_other _ _ _ _ (by simpa using hn),Ts,setRow_other _ _ _ _ (by simpa using hn)];rfl⟩;have l1:(C.toList.take (i*5)).length=i*5:=by rw[Aw,BC,Jv];omega
  have e1:C1.toList.take ((i+m)*5)=C.toList.take (i*5)++news:=by
   rw[Io];show(C.toList.take (i*5)++news++_).take _=_;have l2:(C.toList.take (i*5)++news).length=(i+m)*5:=by rw[AP,l1,JR];omega
   rw[<-l2];exact List.take_left
  rw[Mt];show _=(C1.toList.take ((i+m)*5)++_++_).take _;rw[e1,List.append_assoc,<-C8,By,List.take_take];have l2:(C.toList.take (i*5)++news).length=(i+m)*5:=by rw[AP,l1,JR];omega
  rw[<-l2,List.take_left,Nat.min_eq_left (by omega)]
 have hlow: ¬cap=i+m:=by omega
 have HW:=Lib.hid Ts;have W0:0<d:=by omega
 have BF: ¬(i:Int)=(i:Int)+(d:Int):=by omega
 have h2:i<=cap:=by omega
 have h3:i+d<=cap:=by omega
 have mixed:Tryz.prog.follows Departure.mixedOrders=true:=by kernel_rfl
 have Dy:(0:Int)<=(i:Int)+(d:Int):=by omega
 have F9:(i:Int)+(d:Int)<=(i:Int)+(d:Int)+(m:Int):=by omega
 have Qh:((i:Int)+(d:Int)).toNat=i+d:=by omega
 have hmn:i+d+m-(i+d)=m:=by omega
 have hcr2:=λty=>rA ty (i+d+m-(i+m)) (cap-(i+m)) (by omega);clear rA;clear AY By Jv hg De C8 JR qI Io K9 Mt La Oc Ts CY sE hz hi hs hv hmul Ax h1
 go_enter Tryz.func281,Tryz.ntmps281
 go_wp2_with fail
 go_region_law_o (refine zp0 rfl _ _ 48 rfl (.slice (some ⟨g,0,none⟩) i cap) (.slice (some A) m (cap-(i+d))) (by simp[Act.eval,Act.put]) (by simp[Act.eval,Act.put]) (I1 _ rfl) ?_;rw[<-HW.out])
 go_wp2
 go_ret
 obtain⟨C',f1,f2⟩:=fin _ (by rw[HW.out];rfl) (by rw[HW.out];rfl) (by rw[HW.out];rfl) rfl;exact⟨C',by simp;omega,by rw[show i+d+m-(i+d-i)=i+m by omega];exact f1,f2⟩
end Go.Proofs.YtalagilebkaegaaGreat
end
section
namespace Go.Proofs.YtalagilebkaegaaGreat
open Go.RowKit Go.Sort
set_option maxRecDepth 100000
def uJ(P:Program)(sg:B1)(f:Nat)(t el K:Nat):Bool:=
 match P.funcs[f]?,sg f with
 |some fn,some s=>(match s.b8,s.res,s.ft,s.lo with
  | [.va [true]],[true],[],[]=>true
  |_,_,_,_=>false)&&fn.body.isSome&& !(fn.name== "runtime.NumGoroutine")&&fn.params.toList==[t]&&(Dw fn s)==[t]&&fn.nfree==0&& !Ao P t&&A9 P t==[t]&&CT P t==some el&&Cc P el&&P.cellsOf el==K&&F6 P t [true]&&fn.params.size==1
 |_,_=>false
variable {α:Type} [Inhabited α] {enc:α->Value}
theorem x5{w:World}{b q:Nat}{d:Array α}{C:Array Value}{el:TypeId}(h:w.heap[b]?=some (.cells C el (0,0))):
  (putRow enc (Sort.ahead w q) b 0 d).heap[b]?=some (.cells (Go.Sort.putCells enc 0 d C) el (0,0)):=by
 show(w.heap.modify b (onCells (Go.Sort.putCells enc 0 d)))[b]?=_;rw[Array.getElem?_modify,if_pos rfl,h];rfl
theorem yR{w:World}{b q:Nat}{d:Array α}:Mod [b] w (putRow enc (Sort.ahead w q) b 0 d):=by
 refine⟨rfl,rfl,rfl,?_,λj hj hn=> ?_⟩
 ·show w.heap.size<=(w.heap.modify b (onCells (Go.Sort.putCells enc 0 d))).size;simp
 ·show(w.heap.modify b (onCells (Go.Sort.putCells enc 0 d)))[j]?=_;rw[Array.getElem?_modify,if_neg (by simpa[eq_comm]using hn)]
theorem xO(C:Array Value)(r z:List α)(h:r.length+z.length<=C.size):(Go.Sort.putCells enc 0 (r++z).toArray C).toList.take r.length=r.map enc:=by
 apply List.ext_getElem?;intro j;by_cases hj:j<r.length
 ·have hc:j<C.size:=by omega
  rw[List.getElem?_take,if_pos hj,List.getElem?_map,Bh hj,Option.map_some,Array.getElem?_toList];have:j<(Go.Sort.putCells enc 0 (r++z).toArray C).size:=by simp[Go.Sort.putCells];exact hc
  rw[Array.getElem?_eq_getElem this];simp only[Go.Sort.putCells,Array.getElem_mapIdx,Nat.zero_le,true_and,Nat.zero_add,Nat.sub_zero];rw[if_pos (by simp;omega)];have h2:j<(r++z).toArray.size:=by simp;omega
  rw[getElem!_pos _ j h2];simp[hj]
 ·rw[List.getElem?_take,if_neg hj,List.getElem?_eq_none (by simpa using hj)]
theorem tQ(b:ByteArray):encStr b.data.toList= .string b:=by show Value.string ⟨b.data.toList.toArray⟩= .string b;cases b;simp
theorem pR{w:World}:∀(r:List (List UInt8)),(∀s∈r,s.length<=9223372036854775807)->Rd w (r.map encStr) (Aq (r.map DH)) []
 | [],_=>by simpa[Aq]using Rd.nil
 |s::r,h=>by
  have e:Aq ((s::r).map DH)= .str s::Aq (r.map DH):=by simp[Aq,DH,AV.cells]
  rw[e,List.map_cons];have:=Rd.str (w:=w) (s:=⟨s.toArray⟩) (by show s.toArray.size<=_;simpa using h s (by simp)) (pR r λx hx=>h x (by simp[hx]));simpa using this
theorem mY{w:World}:∀{cs:List Value} {xs:List (List UInt8)} {f:List Nat},Rd w cs (Aq (xs.map DH)) f-> ∀s∈xs,s.length<=9223372036854775807
 |cs,[],f,_=>by simp
 |cs,x::xs,f,h=>by
  have e:Aq ((x::xs).map DH)= .str x::Aq (xs.map DH):=by simp[Aq,DH,AV.cells]
  rw[e]at h;cases h with
  |str a h=>
   intro s hs;rcases Ae.1 hs with rfl|hs
   ·simpa using a
   ·exact mY h s hs
theorem xZ[DecidableEq α](zs:List α):∀s∈Lib.compact zs,s∈zs:=by
 intro s hs;unfold Lib.compact Lib.compactUpTo at hs;obtain⟨j,hj,rfl⟩:=List.mem_map.1 hs;have AH:j<zs.length:=by simpa using(List.mem_filter.1 hj).1
 rw[getElem!_pos _ j (by simpa using AH)];simp
theorem mB{w:World}:∀{cs:List Value} {xs:List (List UInt8)} {f:List Nat},Rd w cs (Aq (xs.map DH)) f-> ∃bs:List ByteArray,cs=bs.map Value.string/\bs.map (·.data.toList)=xs
 |cs,[],f,h=>by obtain⟨rfl,_⟩:=PI (by simpa[Aq]using h);exact⟨[],rfl,rfl⟩
 |cs,x::xs,f,h=>by
  have h':Rd w cs (.str x::Aq (xs.map DH)) f:=by simpa[Aq]using h
  obtain⟨b,us,rfl,rfl,_,h2⟩:=fS h';obtain⟨bs,rfl,rfl⟩:=mB h2;exact⟨b::bs,rfl,rfl⟩
theorem yE[DecidableEq α]{av:α->AV}{dz:α}{Q:α->Prop}(Db:∀{w:World} {cs:List Value} {xs:List α} {f:List Nat},Rd w cs (Aq (xs.map av)) f->cs=xs.map enc/\ ∀s∈xs,Q s)
  (hwr:∀{w:World} (r:List α),(∀s∈r,Q s)->Rd w (r.map enc) (Aq (r.map av)) []) (ha:∀x,(av x).cells.length=1) (ho:∀x,(enc x).oneCell'=true) {f t el:Nat} (hk:uJ Tryz.prog B5 f t el 1=true) (B7:∀r,IW Tryz.prog B5 f r=true)
  (hC:∀(blk cap:Nat) (zs:List α) (w:World),Holds enc w blk 0 zs.toArray->zs.length<=9223372036854775807->zs.length<=cap->
   Calls Tryz.prog f #[.slice (some ⟨blk,0,none⟩) zs.length cap] w λe w'=>e= .returned (.slice (some ⟨blk,0,none⟩) (Lib.compact zs).length cap)/\ ∃q,w'=putRow enc (Sort.ahead w q) blk 0 (Lib.compact zs++List.replicate (zs.length-(Lib.compact zs).length) dz).toArray)
  (h0:∀a cap w,Calls Tryz.prog f #[.slice a 0 cap] w λe w'=>e= .returned (.slice a 0 cap)/\w'=w)
  (xs:List α):Cm Tryz.prog B5 f [.sl (xs.map av)] (.sl ((Lib.compact xs).map av)):=by
 unfold uJ at hk;split at hk
 ·rename_i fn s hf hs;simp only[Ab,Bg,AM]at hk;obtain⟨⟨⟨⟨⟨⟨⟨⟨⟨⟨⟨⟨g1,g2⟩,g3⟩,g4⟩,g5⟩,g6⟩,g7⟩,g8⟩,g9⟩,g10⟩,g11⟩,g12⟩,g13⟩:=hk;obtain⟨hm,hr,CA,B2⟩:s.b8=[.va [true]]/\s.res=[true]/\s.ft=[]/\s.lo=[]:=by
   split at g1
   ·rename_i a b c d;exact⟨a,b,c,d⟩
   ·cases g1
  have Ax:=Lib.compact_length_le xs;unfold Cm;rw[if_pos (KW f s hs)];refine⟨s,hs,fn,hf,g2,g3,by have:=B7 ((Lib.compact xs).map av);unfold IW at this;rw[hf,hs]at this;exact this,by simp[g6,g13],by simp[CA],λw vs rf lf A5 Ah hd _ B8 D3=> ?_⟩;rw[g4,CA,AE,hm,B2]at Ah;cases Ah with
  |lent h _ _ _=>cases h
  | @cons _ _ _ _ v1 vs1 _ _ f1 k1 rf1 lf1 BM a1 Ah=>
   cases Ah;obtain⟨rfl,r1⟩:=ZV g7 g8 g9 g10 a1;obtain⟨xs',cs,e1,p0,p1,p2,p3,p4,p5⟩:=r1.jn;cases e1;rw[g11]at p0 p1 p2 p5;have fin:∀{w':World} {v':Value} {top:List Nat},Mod k1 w w'->C3 w' el 1 v' (.sl ((Lib.compact xs).map av)) top []->top.Nodup->(∀b∈top,b∈k1/\b<w'.heap.size)->gR Tryz.prog fn s w [v1] ([]++ []) (k1++ []) (.sl ((Lib.compact xs).map av)) v' w':=by
    intro w' v' top Bq Be Ek Cj;refine⟨⟨_,[],[],top,[],[],rfl,?_,?_,by simpa using Ek,?_,by simp⟩,Bq.weaken λb hb=> .inl (by simp[hb])⟩
    ·rw[g5];show D7 Tryz.prog w' t s.res _ _ [] top;unfold D7;rw[hr,if_pos g12];refine⟨[v'],[.sl ((Lib.compact xs).map av)],by rw[g7];simp,?_⟩;rw[g8];have:=Cs.own (P:=Tryz.prog) (t:=t) (ts:=[]) (fl:=[true]) (us:=[]) (ys:=[]) (rf:=[]) (hs:=[]) rfl g9 (.inl ⟨g10,rfl⟩) (by rw[g11];exact Be) .nil;simpa using this
    ·rw[g4,CA,AE,hm];exact .va rfl .nil
    ·intro b hb;simp only[AE]at hb;exact⟨.inl (by simpa using(Cj b hb).1),(Cj b hb).2⟩
   rcases p5 with⟨Ej,rfl,q,rfl⟩|⟨g,cap,C,rfl,⟨z1,z2,z3,z4,z5⟩,rfl⟩
   ·have Cl:xs=[]:=by simpa using Ej
    subst Cl;refine(h0 q 0 w).mono ?_;rintro e w' ⟨rfl,rfl⟩;have:Lib.compact ([]:List α)=[]:=rfl;exact⟨_,rfl,fin (Mod.refl _ _) ⟨[],by rw[this];rfl,by simp,by omega, .inl ⟨rfl,⟨q,rfl⟩,rfl,rfl⟩⟩ (by simp) (by simp)⟩
   ·rw[List.length_map]at z1 z5;have P8:=Dq z3;have BY:∀o,w.cell? ⟨g,o,none⟩=C[o]?:=aD z3;have By:cs=xs.map enc:=(Db p3).1;have hH:Holds enc w g 0 xs.toArray:=by
     intro j hj;have Ox:j<xs.length:=by simpa using hj
     refine⟨?_,Zu z3⟩;rw[BY,Nat.zero_add];have e1:C[j]?=cs[j]?:=by rw[z5,List.getElem?_take,if_pos (by omega)];simp
     rw[e1,By,List.getElem?_map,Bh Ox,getElem!_pos _ j hj];simp
    have hc:=hC g cap xs w hH (by unfold maxLen at z2;omega) z1;rw[List.length_map]at fin ⊢;refine hc.mono ?_;rintro e w' ⟨rfl,q,rfl⟩;have EN:=x5 (enc:=enc) (q:=q) (d:=(Lib.compact xs++List.replicate (xs.length-(Lib.compact xs).length) dz).toArray) z3;refine⟨_,rfl,fin (top:=[g]) yR ?_ (by simp) (λb hb=>by rw[List.mem_singleton]at hb;subst hb;exact⟨by simp,Dq EN⟩)⟩;have B0:=xO (enc:=enc) C (Lib.compact xs) (List.replicate (xs.length-(Lib.compact xs).length) dz) (by rw[List.length_replicate,z4];omega);refine⟨_,rfl,λy hy=> ?_,by omega, .inr ⟨g,cap,_,by simp,by rw[List.length_map];omega,z2,EN,by simp[Go.Sort.putCells,z4],rfl,?_,?_⟩⟩
    ·obtain⟨x,_,rfl⟩:=List.mem_map.1 hy;exact ha x
    ·rw[List.length_map,Nat.mul_one,B0];intro u hu;obtain⟨x,_,rfl⟩:=List.mem_map.1 hu;exact ho x
    ·rw[List.length_map,Nat.mul_one,B0];exact hwr _ λs hs=>(Db p3).2 s (xZ xs s hs)
 ·cases hk
noncomputable def QA(xs:List (List UInt8)):Option (List (List UInt8)):=some (Lib.compact xs)
theorem zhl(a0 r:List (List UInt8))(h:QA a0=some r):Cm Tryz.prog B5 229 [.sl (a0.map DH)] (.sl (r.map DH)):=by cases h;exact yE (enc:=encStr) (av:=DH) (dz:=[]) (λh=>by obtain⟨bs,b1,b2⟩:=mB h;exact⟨by rw[b1,<-b2,List.map_map];exact List.map_congr_left λb _=>(tQ b).symm,mY h⟩) (λr h=>pR r h) (λ_=>rfl) (λ_=>rfl) (t:=24) (el:=9) (by kernel_rfl) (λ_=>by kernel_rfl) (λblk cap zs w hH h1 h2=>Tryz.slices_Compact_string blk 0 cap zs w hH h1 h2) (λa cap w=>Tryz.slices_Compact_string_empty a cap w) a0
end Go.Proofs.YtalagilebkaegaaGreat
end
section
namespace Go.Proofs.YtalagilebkaegaaGreat
open Go.RowKit Go.Sort
set_option maxRecDepth 100000
def uS(P:Program)(sg:B1)(f:Nat)(t el K:Nat):Bool:=
 match P.funcs[f]?,sg f with
 |some fn,some s=>(match s.b8,s.res,s.ft,s.lo with
  | [.mu [true]],[],[],[]=>true
  |_,_,_,_=>false)&&fn.body.isSome&& !(fn.name== "runtime.NumGoroutine")&&fn.params.toList==[t]&&(Dw fn s)==[]&&fn.nfree==0&& !Ao P t&&A9 P t==[t]&&CT P t==some el&&Cc P el&&P.cellsOf el==K&&fn.params.size==1
 |_,_=>false
theorem zz6{w:World}{b q:Nat}{d:Array (List UInt8)}{C:Array Value}{el:TypeId}{os:Array Obj}(h:w.heap[b]?=some (.cells C el (0,0))):
  (grow (putRow encStr (Sort.ahead w q) b 0 d) os).heap[b]?=some (.cells (Go.Sort.putCells encStr 0 d C) el (0,0)):=by
 have h1:=x5 (enc:=encStr) (q:=q) (d:=d) h;show((putRow encStr (Sort.ahead w q) b 0 d).heap++os)[b]?=_;rw[Array.getElem?_append_left (Dq h1),h1]
theorem zDk{w:World}{b q:Nat}{d:Array (List UInt8)}{os:Array Obj}:Mod [b] w (grow (putRow encStr (Sort.ahead w q) b 0 d) os):=by
 have h:=yR (enc:=encStr) (w:=w) (b:=b) (q:=q) (d:=d);have hs:=h.size;refine⟨h.os,h.tape,h.output,?_,λj hj hn=> ?_⟩
 ·show w.heap.size<=((putRow encStr (Sort.ahead w q) b 0 d).heap++os).size;simp only[Array.size_append];omega
 ·show((putRow encStr (Sort.ahead w q) b 0 d).heap++os)[j]?=_;rw[Array.getElem?_append_left (by omega)];exact h.block j hj hn
def GB(xs:List (List UInt8)):List (List UInt8):=xs.mergeSort λx y=>decide (x<=y)
theorem yT(xs:List (List UInt8)):(GB xs).Perm xs:=List.mergeSort_perm _ _
theorem zzL{f t el:Nat}(hk:uS Tryz.prog B5 f t el 1=true)
  (hC:∀(blk cap:Nat) (zs:List (List UInt8)) (w:World),Holds encStr w blk 0 zs.toArray->blk<w.heap.size->zs.length<4611686018427387904->
   Calls Tryz.prog f #[.slice (some ⟨blk,0,none⟩) zs.length cap] w λe w'=>e= .returned (.tuple #[])/\ ∃n os,w'=grow (putRow encStr (Sort.ahead w n) blk 0 (zs.mergeSort λx y=>decide (x<=y)).toArray) os)
  (h0:∀a cap w,Calls Tryz.prog f #[.slice a 0 cap] w λe w'=>e= .returned (.tuple #[])/\w'=w)
  (xs:List (List UInt8)) (hb:xs.length<4611686018427387904):Cm Tryz.prog B5 f [.sl (xs.map DH)] (.tup [.tup [], .sl ((GB xs).map DH)]):=by
 unfold uS at hk;split at hk
 ·rename_i fn s hf hs;simp only[Ab,Bg,AM]at hk;obtain⟨⟨⟨⟨⟨⟨⟨⟨⟨⟨⟨g1,g2⟩,g3⟩,g4⟩,g5⟩,g6⟩,g7⟩,g8⟩,g9⟩,g10⟩,g11⟩,g13⟩:=hk;obtain⟨hm,hr,CA,B2⟩:s.b8=[.mu [true]]/\s.res=[]/\s.ft=[]/\s.lo=[]:=by
   split at g1
   ·rename_i a b c d;exact⟨a,b,c,d⟩
   ·cases g1
  have hp:=yT xs;have Gn:=hp.length_eq;unfold Cm;rw[if_pos (KW f s hs)];refine⟨s,hs,fn,hf,g2,g3,?_,by simp[g6,g13],by simp[CA],λw vs rf lf A5 Ah hd _ B8 D3=> ?_⟩
  ·unfold Ny UG;rw[g4,g5,CA,AE,hm];simp[BK,WB,Ib]
  rw[g4,CA,AE,hm,B2]at Ah;cases Ah with
  |lent h _ _ _=>cases h
  | @cons _ _ _ _ v1 vs1 _ _ f1 k1 rf1 lf1 BM a1 Ah=>
   cases Ah;obtain⟨rfl,r1⟩:=ZV g7 g8 g9 g10 a1;obtain⟨xs',cs,e1,p0,p1,p2,p3,p4,p5⟩:=r1.jn;cases e1;rw[g11]at p0 p1 p2 p5;have IE:(xs.map DH).length=xs.length:=by simp
   rcases p5 with⟨Ej,rfl,q,rfl⟩|⟨g,cap,C,rfl,⟨z1,z2,z3,z4,z5⟩,rfl⟩
   ·have Cl:xs=[]:=by simpa using Ej
    subst Cl;have hS0:GB []=[]:=by simpa using Gn
    refine(h0 q 0 w).mono ?_;rintro e w' ⟨rfl,rfl⟩;refine⟨_,rfl,⟨⟨.tup [],[.sl []],[],[],[],[],by simp[hS0],?_,?_,by simp,by simp,by simp⟩,Mod.refl _ _⟩⟩
    ·rw[g5];exact⟨[],[],rfl,rfl, .nil⟩
    ·rw[g4,CA,AE,hm];have Gg:Fs Tryz.prog w' (A9 Tryz.prog t) [true] [.slice q 0 0] [.sl []] [] []:=by
      rw[g8];have:=Fs.own (P:=Tryz.prog) (w:=w') (t:=t) (ts:=[]) (fl:=[true]) (us:=[]) (ys:=[]) rfl g9 (.inl ⟨g10,rfl⟩) (y:= .sl []) (u:= .slice q 0 0) (top:=[]) (by rw[g11];exact⟨[],rfl,by simp,p0, .inl ⟨rfl,⟨q,rfl⟩,rfl,rfl⟩⟩) .nil;simpa using this
     have:=DN.mu (P:=Tryz.prog) (w:=w') (t:=t) (ts:=[]) (ms:=[.mu [true]]) (own:=[true]) (v:= .slice q 0 0) (vs:=[]) (us:=[.slice q 0 0]) (ys:=[.sl []]) (y:= .sl []) (bs:=[]) (f:=[]) (o1:=[]) (o:=[]) rfl (by rw[g7];simp) Gg .nil;simpa using this
   ·rw[List.length_map]at z1 z5;obtain⟨bs,b1,b2⟩:=mB p3;have BY:∀o,w.cell? ⟨g,o,none⟩=C[o]?:=aD z3;have By:cs=xs.map encStr:=by
     rw[b1,<-b2,List.map_map];exact List.map_congr_left λb _=>(tQ b).symm
    have hH:Holds encStr w g 0 xs.toArray:=by
     intro j hj;have Ox:j<xs.length:=by simpa using hj
     refine⟨?_,Zu z3⟩;rw[BY,Nat.zero_add];have e1:C[j]?=cs[j]?:=by rw[z5,List.getElem?_take,if_pos (by omega)];simp
     rw[e1,By,List.getElem?_map,Bh Ox,getElem!_pos _ j hj];simp
    have hc:=hC g cap xs w hH (Dq z3) hb;rw[List.length_map];refine hc.mono ?_;rintro e w' ⟨rfl,n,os,rfl⟩;have EN:=zz6 (q:=n) (os:=os) (d:=(GB xs).toArray) z3;have Bq:=zDk (w:=w) (b:=g) (q:=n) (os:=os) (d:=(GB xs).toArray);have B0:=xO (enc:=encStr) C (GB xs) [] (by rw[Gn,z4];simpa using z1);rw[AE,Gn]at B0;change Mod [g] w (grow (putRow encStr (Sort.ahead w n) g 0 (xs.mergeSort λx y=>decide (x<=y)).toArray) os)at Bq;change (grow (putRow encStr (Sort.ahead w n) g 0 (xs.mergeSort λx y=>decide (x<=y)).toArray) os).heap[g]?=_ at EN;generalize grow (putRow encStr (Sort.ahead w n) g 0 (xs.mergeSort λx y=>decide (x<=y)).toArray) os=w' at Bq EN;have Be:C3 w' el 1 (.slice (some ⟨g,0,none⟩) xs.length cap) (.sl ((GB xs).map DH)) [g] []:=by
     refine⟨_,rfl,λy hy=> ?_,by omega, .inr ⟨g,cap,_,by simp[Gn],by rw[List.length_map,Gn];omega,z2,EN,by simp[Go.Sort.putCells,z4],rfl,?_,?_⟩⟩
     ·obtain⟨x,_,rfl⟩:=List.mem_map.1 hy;rfl
     ·rw[List.length_map,Gn,Nat.mul_one,B0];intro u hu;obtain⟨x,_,rfl⟩:=List.mem_map.1 hu;rfl
     ·rw[List.length_map,Gn,Nat.mul_one,B0];exact pR _ λs hs=>mY p3 s (hp.mem_iff.1 hs)
    refine⟨_,rfl,⟨⟨.tup [],[.sl ((GB xs).map DH)],[],[],[],[g],by simp,?_,?_,by simp,?_,by simp⟩,Bq.weaken λb hb=> .inl (by simpa using hb)⟩⟩
    ·rw[g5];exact⟨[],[],rfl,rfl, .nil⟩
    ·rw[g4,CA,AE,hm];have Gg:Fs Tryz.prog w' (A9 Tryz.prog t) [true] [.slice (some ⟨g,0,none⟩) xs.length cap] [.sl ((GB xs).map DH)] [] [g]:=by
      rw[g8];have:=Fs.own (P:=Tryz.prog) (w:=w') (t:=t) (ts:=[]) (fl:=[true]) (us:=[]) (ys:=[]) rfl g9 (.inl ⟨g10,rfl⟩) (y:= .sl ((GB xs).map DH)) (u:= .slice (some ⟨g,0,none⟩) xs.length cap) (top:=[g]) (by rw[g11];exact Be) .nil;simpa using this
     have:=DN.mu (P:=Tryz.prog) (w:=w') (t:=t) (ts:=[]) (ms:=[.mu [true]]) (own:=[true]) (v:= .slice (some ⟨g,0,none⟩) xs.length cap) (vs:=[]) (us:=[.slice (some ⟨g,0,none⟩) xs.length cap]) (ys:=[.sl ((GB xs).map DH)]) (y:= .sl ((GB xs).map DH)) (bs:=[]) (f:=[]) (o1:=[g]) (o:=[]) rfl (by rw[g7];simp) Gg .nil;simpa using this
    ·intro b hb;simp only[List.nil_append,List.mem_singleton]at hb;subst hb;exact⟨.inl (by simp),Dq EN⟩
 ·cases hk
noncomputable def QB(xs:List (List UInt8)):Option (Unit × List (List UInt8)):=AK (xs.length<4611686018427387904) (some ((),GB xs))
theorem ziu(a0:List (List UInt8))(r:Unit × List (List UInt8))(h:QB a0=some r):Cm Tryz.prog B5 228 [.sl (a0.map DH)] (.tup [.tup [], .sl (r.2.map DH)]):=by obtain⟨hb,h⟩:=F7 h;cases h;exact zzL (t:=24) (el:=9) (by kernel_rfl) (λblk cap zs w hH h1 h2=>Tryz.slices_Sort_string blk 0 cap zs w hH h1 h2) (λa cap w=>Tryz.slices_Sort_string_none a cap w) a0 hb
end Go.Proofs.YtalagilebkaegaaGreat
end

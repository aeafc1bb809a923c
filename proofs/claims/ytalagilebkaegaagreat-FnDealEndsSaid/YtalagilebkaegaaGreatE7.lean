/- Parts of a proof, joined: DA, DB, MA, MB, OB, OG, QA, QO, MC, MD, QT, TF, QL, HB, SP, HL, IA, IC, ID, IE, IF, IG, IB, CM, SS, CC. -/
import Derived.Test.YtalagilebkaegaaGreatE6
import Derived.Test.YtalagilebkaegaaGreatProg
import Derived.Test.YtalagilebkaegaaGreatChecked
import Derived.Shelf.Small.Bits
import Derived.Shelf.Small.Strs
import Derived.Shelf.Small.Wraps
import Derived.Shelf.Strconv.Itoa0
import Derived.Shelf.Strings.Search1
import Derived.Shelf.Sort.Plain
import Derived.Ground.Names2Prog
import Derived.Shelf.Slices.CompactI
import Derived.Shelf.Slices.CompactS
import Derived.Shelf.Slices.Cells
import Derived.Shelf.Slices.In.SortNone
import Derived.Laws.CopyRow
import Derived.Lib.AppendZerosOnto
import Derived.Lib.Overlaps
import Derived.Lib.SliceRun
import Derived.Lib.SlicesDelete
import Derived.Shelf.RegionOpenPlain
import Derived.Deep.RegionLaw
import Derived.Lib.RowBridge
set_option linter.unusedVariables false
set_option linter.unusedSimpArgs false
section
namespace Go.Proofs.YtalagilebkaegaaGreat
open Go.RowKit
noncomputable def rN(t:TypeId):List Bool:=(Bl Tryz.prog t).map λu=>match C3 Tryz.prog u with|some e=>Cg Tryz.prog e|none=>false
noncomputable def wC(u:TypeId):List Bool:=if u=77 then []else rN u
noncomputable def zG7(fn:Func):Hn:={cf:=fn.params.toList.map λt=>match Lk Tryz.prog t with|some u=> .bx (wC u) (wC u)|none=> .ro,res:=fn.resultTypes.toList.flatMap rN}
noncomputable def zGh(f:Nat):Option Hn:=
 match f with
 |5=>some {cf:=[],res:=[false],dp:=true}
 |6=>some {cf:=[],res:=[false],dp:=true}
 |8=>some {cf:=[],res:=[]}
 |9=>some {cf:=[.ro, .ro],res:=[true,true,true,true,false],dp:=true}
 |10=>some {cf:=[.ro, .ro],res:=[true,true,true,true,false],dp:=true}
 |15=>some {cf:=[],res:=[]}
 |16=>some {cf:=[.ro, .ro],res:=[true,true,true,false],dp:=true}
 |17=>some {cf:=[.ro, .ro],res:=[true,true,true,false],dp:=true}
 |19=>some {cf:=[.ro],res:=[true,true,true,false],dp:=true}
 |21=>some {cf:=[],res:=[]}
 |22=>some {cf:=[.ro],res:=[true,true,true,false],dp:=true}
 |23=>some {cf:=[],res:=[]}
 |26=>some {cf:=[],res:=[true,true,true],dp:=true}
 |29=>some {cf:=[.mu [true,true,true], .ro],res:=[],dp:=true}
 |35=>some {cf:=[.mu [true], .ro],res:=[]}
 |36=>some {cf:=[.mu [true], .ro],res:=[]}
 |38=>some {cf:=[.bx [] []],res:=[]}
 |39=>some {cf:=[.ro],res:=[true,true,true],dp:=true}
 |40=>some {cf:=[.ro, .ro],res:=[true,true,true,false],dp:=true}
 |42=>some {cf:=[.ro, .ro],res:=[true,true,true,true],dp:=true}
 |55=>some {cf:=[.bx [] []],res:=[true,false,false],dp:=true}
 |57=>some {cf:=[.ro, .ro],res:=[true,true,true,false],dp:=true}
 |58=>some {cf:=[.va [true,true,true], .ro, .bx [true,true,true] [true,true,true]],res:=[],ft:=[1000000028],dp:=true}
 |63=>some {cf:=[.ro, .ro],res:=[true,true,true,false],dp:=true}
 |64=>some {cf:=[.ro, .ro, .ro],res:=[true,true,true,false],dp:=true}
 |65=>some {cf:=[],res:=[]}
 |66=>some {cf:=[.ro],res:=[true,true,true],dp:=true}
 |67=>some {cf:=[.ro, .ro],res:=[]}
 |68=>some {cf:=[.ro, .ro],res:=[]}
 |75=>some {cf:=[],res:=[true],dp:=true}
 |76=>some {cf:=[],res:=[true],dp:=true}
 |80=>some {cf:=[.mu [true], .ro],res:=[]}
 |81=>some {cf:=[.mu [true], .ro],res:=[],dp:=true}
 |82=>some {cf:=[.mu [true], .ro],res:=[],dp:=true}
 |88=>some {cf:=[.bx [] []],res:=[]}
 |92=>some {cf:=[.ro],res:=[false,true,true,true],dp:=true}
 |96=>some {cf:=[.ro, .ro, .ro],res:=[true,true,true,false],dp:=true}
 |97=>some {cf:=[.ro, .ro, .ro],res:=[true,true,true,false],dp:=true}
 |103=>some {cf:=[.ro],res:=[]}
 |116=>some {cf:=[.bx [] []],res:=[false,true,true,true],dp:=true}
 |120=>some {cf:=[.ro, .ro],res:=[false,true,true,true,false],dp:=true}
 |127=>some {cf:=[.ro, .ro, .ro],res:=[true,true,true,false],dp:=true}
 |130=>some {cf:=[.ro],res:=[true],dp:=true}
 |131=>some {cf:=[.ro],res:=[false,true,true,true],dp:=true}
 |132=>some {cf:=[.ro, .ro],res:=[]}
 |133=>some {cf:=[.ro, .ro],res:=[]}
 |136=>some {cf:=[],res:=[false,true,true,true],dp:=true}
 |141=>some {cf:=[.mu [true], .ro],res:=[],dp:=true}
 |142=>some {cf:=[.mu [true], .ro],res:=[],dp:=true}
 |143=>some {cf:=[.mu [true], .ro],res:=[]}
 |144=>some {cf:=[.mu [true], .ro],res:=[]}
 |151=>some {cf:=[.ro, .ro],res:=[]}
 |154=>some {cf:=[.ro],res:=[true],dp:=true}
 |172=>some {cf:=[.va [true]],res:=[true]}
 |177=>some {cf:=[.ro],res:=[]}
 |185=>some {cf:=[.bx [] []],res:=[false,true,true,true],dp:=true}
 |191=>some {cf:=[.ro, .ro],res:=[false,true,true,true,false],dp:=true}
 |193=>some {cf:=[.ro, .ro],res:=[false,true,true,true,false],dp:=true}
 |195=>some {cf:=[.ro],res:=[true],dp:=true}
 |197=>some {cf:=[.ro, .ro],res:=[]}
 |203=>some {cf:=[],res:=[true],dp:=true}
 |204=>some {cf:=[],res:=[true],dp:=true}
 |211=>some {cf:=[.mu [true], .ro],res:=[]}
 |218=>some {cf:=[.va [true], .ro],res:=[true],wn:=true}
 |220=>some {cf:=[.va [true], .ro],res:=[true],wn:=true}
 |228=>some {cf:=[.mu [true]],res:=[]}
 |229=>some {cf:=[.va [true]],res:=[true]}
 |240=>some {cf:=[.ro],res:=[false,true,true,true,true],dp:=true}
 |245=>some {cf:=[.va [true], .va [false,false,false,true,true]],res:=[true],dp:=true,wn:=true}
 |247=>some {cf:=[.ro, .ro, .ro],res:=[true,false],dp:=true,wn:=true}
 |248=>some {cf:=[.va [true], .ro],res:=[true],dp:=true,wn:=true}
 |250=>some {cf:=[.ro, .ro],res:=[false,true,true,true,false],dp:=true}
 |252=>some {cf:=[.va [true], .ro, .va [true]],res:=[true]}
 |269=>some {cf:=[.mu [true], .ro, .ro, .ro],res:=[]}
 |279=>some {cf:=[.bx [] []],res:=[]}
 |280=>some {cf:=[.ro, .ro, .ro],res:=[true,false],dp:=true}
 |281=>some {cf:=[.va [true], .ro, .ro],res:=[true]}
 |282=>some {cf:=[.va [true], .ro, .va [true]],res:=[true]}
 |284=>some {cf:=[.ro],res:=[true],sh:=true}
 |291=>some {cf:=[.mu [true], .ro, .ro],res:=[]}
 |292=>some {cf:=[.mu [true], .ro, .ro],res:=[]}
 |293=>some {cf:=[.mu [true], .ro, .ro],res:=[]}
 |294=>some {cf:=[.mu [true], .ro, .ro],res:=[]}
 |295=>some {cf:=[.mu [true], .ro, .ro],res:=[]}
 |296=>some {cf:=[.mu [true], .ro, .ro],res:=[]}
 |298=>some {cf:=[.mu [true], .ro, .ro, .ro],res:=[]}
 |299=>some {cf:=[.mu [true], .ro, .ro, .ro],res:=[]}
 |306=>some {cf:=[.va [true], .ro, .va [true]],res:=[true]}
 |313=>some {cf:=[.mu [true], .ro, .ro, .ro],res:=[]}
 |316=>some {cf:=[.mu [true], .ro, .bx [false] [false]],res:=[]}
 |317=>some {cf:=[.mu [true], .ro, .ro, .ro, .bx [false] [false]],res:=[]}
 |323=>some {cf:=[.mu [true], .ro, .ro, .bx [false] [false]],res:=[]}
 |325=>some {cf:=[.mu [true]],res:=[]}
 |_=>none
noncomputable def wU(f:Nat):Option Hn:=match Tryz.prog.funcs[f]? with
 |some fn=>some ((zGh f).getD (zG7 fn))
 |none=>none
noncomputable def B9:B4:={f:=wU}
theorem zGA:Tryz.prog.follows .mixedOrders=true:=by kernel_rfl
theorem zHz:Tryz.prog.funcs.size<1000000:=by
 have:(decide (Tryz.prog.funcs.size<1000000))=true:=by kernel_rfl
 exact of_decide_eq_true this
theorem K4(f:Nat)(s:Hn)(h:B9 f=some s):f<1000000:=by
 simp only[B9]at h;unfold wU at h;split at h
 ·rename_i fn hf;have:=(Array.getElem?_eq_some_iff.1 hf).1;exact Nat.lt_trans this zHz
 ·cases h
def Yw(P:Program)(sg:B4)(f:Nat)(xs:List AV)(r:AV):Bool:=
 match P.funcs[f]?,sg f with
 |some fn,some s=> !(fn.name== "runtime.NumGoroutine")&&Oi P fn s r&&xs.length==fn.params.size+fn.nfree
 |_,_=>false
abbrev Den(t:Tr)(r:AV)(xs:List AV):Prop:=t.den (Cr Tryz.prog B9) (λr'=>r'=r) (λ_ _ _ _=>False) [] xs
theorem FW{f:Nat}{t:Tr}{xs:List AV}{r:AV}(hc:VD Tryz.prog B9 f=some t)(hk:Yw Tryz.prog B9 f xs r=true)(hd:Den t r xs):Cr Tryz.prog B9 f xs r:=by
 unfold Yw at hk;split at hk
 ·rename_i fn s hf hs;simp only[Ab,Be,AO]at hk;unfold Cr;rw[if_pos (K4 f s hs)];exact⟨s,hs,zDo zGA K4 hf hs hk.1.1 hc hk.1.2 hk.2 hd⟩
 ·cases hk
section
variable {Rt:Nat->List AV->AV->Prop} {R:AV->Prop} {L:LK} {js:List JK} {ρ:List AV}
theorem zxT{i:EL}{b k:Tr}(hL:K5 L)(I:Nat->List AV->Prop){m:Nat}(h0:I m (i.den ρ))(GU:∀m vs,I m vs->b.den Rt R L ((λus=> ∃m',m'<m/\I m' us)::(λus=>k.den Rt R L js (ρ++us))::js) (ρ++vs)):(Tr.loop i b k).den Rt R L js ρ:=by
 have hb:∀W W':JK,(∀vs,W vs->W' vs)-> ∀vs,b.den Rt R L (W::(λus=>k.den Rt R L js (ρ++us))::js) (ρ++vs)->b.den Rt R L (W'::(λus=>k.den Rt R L js (ρ++us))::js) (ρ++vs):=
  λW W' hW vs hv=>b.gb hL hv (.cons hW (EC.refl _))
 have mono:∀n vs,JX (λW vs=>b.den Rt R L (W::(λus=>k.den Rt R L js (ρ++us))::js) (ρ++vs)) n vs-> ∀n',n<=n'->JX (λW vs=>b.den Rt R L (W::(λus=>k.den Rt R L js (ρ++us))::js) (ρ++vs)) n' vs:=by
  intro n
  induction n with
  |zero=>intro vs h;exact h.elim
  |succ n ih=>
   intro vs h n' hn;cases n' with
   |zero=>omega
   |succ n'=>exact hb _ _ (λus hu=>ih us hu n' (by omega)) vs h
 have key:∀m vs,I m vs->JX (λW vs=>b.den Rt R L (W::(λus=>k.den Rt R L js (ρ++us))::js) (ρ++vs)) (m+1) vs:=by
  intro m
  induction m using Nat.strongRecOn with
  |_ m ih=>intro vs hI;exact hb _ _ (λus ⟨m',hm,hu⟩=>mono _ _ (ih m' hm us hu) m (by omega)) vs (GU m vs hI)
 exact⟨m+1,key m _ h0⟩
theorem nM:K5 (λ_ _ _ _=>False):=λ_ _ _ _ _ _ h=>h
end
@[simp] theorem zHn(ρ:List AV):BH ρ []↔True:=⟨λ_=>trivial,λ_=>Fj ρ⟩
@[simp] theorem zHc(ρ:List AV)(x:E)(b:Bool)(gs:Gd):BH ρ ((x,b)::gs)↔x.den ρ= .bool b/\BH ρ gs:=
 ⟨λh=>⟨h (x,b) (by simp),λg hg=>h g (by simp[hg])⟩,λh g hg=>by rcases Ae.1 hg with rfl|hg;exact h.1;exact h.2 g hg⟩
attribute [simp] E.den EL.den Cn.den AV.fld AV.proj AV.deref AV.len AV.slen AV.idx AV.nth AV.ff AV.iy AV.conv AV.bin AV.bbin AV.sbin AV.app AV.de AV.rep
@[simp] theorem zFK(cs:List AV):(AV.agg cs).cells=cs:=rfl
@[simp] theorem zGq(k:IntKind)(n:Int):(AV.int k n).cells=[.int k n]:=rfl
@[simp] theorem zFG(b:Bool):(AV.bool b).cells=[.bool b]:=rfl
@[simp] theorem zFO(s:List UInt8):(AV.str s).cells=[.str s]:=rfl
@[simp] theorem zGI(xs:List AV):(AV.sl xs).cells=[.sl xs]:=rfl
@[simp] theorem zFI(k:IntKind)(n:Int):(AV.int k n).scalar=true:=rfl
@[simp] theorem zFr(b:Bool):(AV.bool b).scalar=true:=rfl
@[simp] theorem zFF(s:List UInt8):(AV.str s).scalar=true:=rfl
@[simp] theorem zGY(b c d:Bool):AV.cond (.bool b) (.bool c) (.bool d)= .bool (bif b then c else d):=by cases b<;>rfl
theorem zwR{y:AV}(h:y.scalar=true):y.cells=[y]:=by cases y<;>first|rfl|simp[AV.scalar]at h
theorem CO{n:Int}(h1: -9223372036854775808<=n)(h2:n<=9223372036854775807):IntKind.i64.wrap n=n:=by rw[IntKind.wrap_i64];omega
end Go.Proofs.YtalagilebkaegaaGreat
end
section
namespace Go.Proofs.YtalagilebkaegaaGreat
open Go.RowKit
section
variable {Rt:Nat->List AV->AV->Prop} {R:AV->Prop} {L:LK} {js:List JK} {ρ:List AV}
theorem DF{gs:Gd}{c:Cn}{k:Tr}(h:BH ρ gs->c.den ρ)(hk:k.den Rt R L js ρ):(Tr.cq gs c k).den Rt R L js ρ:=⟨h,hk⟩
theorem pU{gs:Gd}{f:Nat}{args:EL}{k:Tr}{r:AV}(h:BH ρ gs->Rt f (args.den ρ) r)(hk:k.den Rt R L js (ρ++ [r])):(Tr.call gs (.inl f) args k).den Rt R L js ρ:=⟨r,h,hk⟩
theorem oM{gs:Gd}{x:E}{args:EL}{k:Tr}{r:AV}(h:BH ρ gs-> ∃g caps,x.den ρ= .fn g caps/\Rt (1000000+g) (args.den ρ++caps) r/\ ∀y∈r.cells,y.scalar=true)(hk:k.den Rt R L js (ρ++ [r])):(Tr.call gs (.inr x) args k).den Rt R L js ρ:=⟨r,h,hk⟩
theorem Gu{c:E}{a b:Tr}{t:Bool}(h:c.den ρ= .bool t)(ha:t=true->a.den Rt R L js ρ)(hb:t=false->b.den Rt R L js ρ):(Tr.ite c a b).den Rt R L js ρ:=⟨t,h,ha,hb⟩
theorem KY{r:E}(h:R (r.den ρ)):(Tr.ret r).den Rt R L js ρ:=h
theorem W4{es:EL}{j:JK}(h:j (es.den ρ)):(Tr.jmp 0 es).den Rt R L (j::js) ρ:=h
theorem pV{es:EL}{i j:JK}(h:j (es.den ρ)):(Tr.jmp 1 es).den Rt R L (i::j::js) ρ:=h
end
def uQ(cn:Nat)(xs:List AV):Prop:= ∀x∈xs,∃cs,x= .agg cs/\cs.length=cn
theorem uQ.at{cn:Nat}{xs:List AV}(h:uQ cn xs){q:Nat}(hq:q<xs.length):∃cs,xs[q]= .agg cs/\cs.length=cn:=h _ (Aw hq)
section
variable {Rt:Nat->List AV->AV->Prop} {R:AV->Prop} {L:LK} {js:List JK} {ρ:List AV} {α β σ τ:Type}
theorem zGa{x:E}{sz:Nat}{xs:List α}(f:α->AV)(hx:x.den ρ= .sl (xs.map f))(hf:∀y,(f y).cells.length=sz):Cn.den ρ (.issl x sz):=⟨_,hx,by simp[hf]⟩
theorem zFd{x:E}{sz:Nat}{xs:List α}(f:α->AV)(hx:x.den ρ= .sl (xs.map f))(hf:∀y,(f y).cells.length=sz/\ ∀z∈(f y).cells,z.scalar=true):Cn.den ρ (.flatS x sz):=⟨_,hx,by simp only[List.mem_map];rintro _ ⟨y,_,rfl⟩;exact hf y⟩
end
@[simp] def M0(n:Int):AV:= .int .i64 n
@[simp] def Ra(n:Int):AV:= .int .u8 n
@[simp] def DZ(x:List UInt8):AV:= .str x
attribute [simp] CK TR AV.sidx AV.aeq AV.leq AV.seq AV.sk AV.di AV.bytes AV.text
end Go.Proofs.YtalagilebkaegaaGreat
end
section
namespace Go.Proofs.YtalagilebkaegaaGreat
open Go.RowKit
section
variable {P:Program} {w:World}
theorem D8.ir{ts:List TypeId}{vs:List Value}{xs:List AV}{rf lf hs:List Nat}(h:D8 P w ts [] [] vs xs rf lf hs):∀(ms:List PM) (lo:List Bool),(∀m∈ms,m= .ro)->D8 P w ts ms lo vs xs rf lf hs:=by
 generalize hm:([]:List PM)=m0 at h;generalize hn:([]:List Bool)=n0 at h
 induction h with
 |nil=>intro ms lo _;exact .nil
 |lent h1 _ _ _ _=>subst hn;cases h1
 | @cons t ts ms' lo' v vs x xs f h rf lf hs Bu _ ih=>
  subst hm;subst hn;intro ms lo E8;refine .cons ?_ (ih rfl rfl ms.tail lo.tail λm hm=>E8 m (List.mem_of_mem_tail hm));have:ms.headD .ro= .ro:=by cases ms with|nil=>rfl|cons m ms=>exact E8 m (by simp)
  rw[this];exact Bu
 |free h1 _ ih=>subst hm;subst hn;intro ms lo E8;exact .free h1 (ih rfl rfl ms.tail lo.tail λm hm=>E8 m (List.mem_of_mem_tail hm))
theorem D7.ir{ts:List TypeId}{ms:List PM}{vs:List Value}{Bs:List AV}{f o:List Nat}(h:D7 P w ts ms vs Bs f o)(E8:∀m∈ms,m= .ro):D7 P w ts [] vs Bs f o:=by
 have hd:∀{ms:List PM},(∀m∈ms,m= .ro)->ms.headD .ro= .ro:=by intro ms h;cases ms with|nil=>rfl|cons m ms=>exact h m (by simp)
 induction h with
 |nil=>exact .nil
 |ro _ _ ih=>exact .ro rfl (ih λm hm=>E8 m (List.mem_of_mem_tail hm))
 |va h9 _ _=>rw[hd E8]at h9;cases h9
 |mu h9 _ _ _ _=>rw[hd E8]at h9;cases h9
 |bx h9 _ _ _ _ _ _ _ _=>rw[hd E8]at h9;cases h9
end
noncomputable def iM(f:Nat)(r:AV):Bool:=
 match Tryz.prog.funcs[f]?,B9 f with
 |some fn,some s=>s.cf.all (λm=>match m with| .ro=>true|_=>false)&&(s.ft.isEmpty&& !s.sh)&&(match(Dz fn s)with| [t]=> !Gj Tryz.prog t s.res|_=>false)&&Oi Tryz.prog fn {cf:=[],res:=[]} r
 |_,_=>false
theorem zAK{f:Nat}{xs:List AV}{r:AV}(h:Cr Tryz.prog B9 f xs r)(hp:iM f r=true):Cr Tryz.prog B9 (1000000+f) xs r:=by
 unfold iM at hp;split at hp
 ·rename_i fn s hf hs;simp only[Ab,AZ]at hp;obtain⟨⟨⟨h1,CB⟩,h2⟩,h3⟩:=hp;obtain⟨CB,gQ⟩:s.ft=[]/\s.sh=false:=by simpa using CB
  have Ir:Dz fn s=fn.resultTypes.toList:=by simp[Dz,gQ]
  have gN:Dz fn {cf:=[],res:=[]}=fn.resultTypes.toList:=rfl;rw[Ir]at h2;have I8:∀m∈s.cf,m= .ro:=λm hm=>by
   have:=h1 m hm;split at this
   ·rfl
   ·cases this
  unfold Cr at h ⊢;rw[if_pos (K4 f s hs)]at h;rw[if_neg (by omega),Nat.add_sub_cancel_left];obtain⟨s',Bh,fn',UA,hb,hn,_,hl,_,hc⟩:=h;rw[hs]at Bh;cases Bh;rw[hf]at UA;cases UA;rw[CB]at hc;refine⟨fn,hf,hb,hn,h3,hl,by simp,λw vs rf lf Bh Aj hd hd2 Cb Ed=>(hc w vs rf lf Bh (Aj.ir _ _ I8) hd hd2 Cb Ed).mono ?_⟩;rintro e w' ⟨v,rfl,⟨R,Bs,f1,o1,f2,o2,e1,e2,e3,e4,e5,e6⟩,hm⟩;rw[CB]at e3;refine⟨v,rfl,⟨R,Bs,f1,o1,f2,o2,e1,?_,e3.ir I8,e4,e5,e6⟩,hm⟩;rw[Ir]at e2;rw[gN];unfold Ll at e2 ⊢;split at h2
  ·rename_i t ht;rw[ht]at e2 ⊢;simp only at e2 ⊢;unfold Ea at e2 ⊢;have h2:Gj Tryz.prog t s.res=false:=by simpa using h2
   rw[if_neg (by rw[h2];simp)]at e2;rw[if_neg (by simp[Gj])];exact e2
  ·cases h2
 ·cases hp
section
variable {Rt:Nat->List AV->AV->Prop} {R:AV->Prop} {L:LK} {js:List JK} {ρ:List AV}
theorem zyU{i:EL}{b k:Tr}(hL:K5 L)(n:Nat)(st:Nat->List AV)(J:Nat->Prop)(hJ:J 0)(h0:i.den ρ=st 0)(hb:∀q,q<=n->J q-> ∀W:JK,(q<n->J (q+1)->W (st (q+1)))->b.den Rt R L (W::(λus=>k.den Rt R L js (ρ++us))::js) (ρ++st q)):(Tr.loop i b k).den Rt R L js ρ:=by refine zxT hL (λm vs=> ∃q,q+m=n/\vs=st q/\J q) (m:=n) ⟨0,by omega,h0,hJ⟩ ?_;rintro m vs ⟨q,hq,rfl,hj⟩;exact hb q (by omega) hj _ λAD Pc=>⟨m-1,by omega,q+1,by omega,rfl,Pc⟩
end
def QF(cn:Nat):Tr:=
 .cq [] (.dfd (.len (.var 0)))<|
 .loop (.cons (.int .i64 (0)) .nil) (
  .cq [] (.dfd (.bin .lss (.var 2) (.len (.var 0))))<|
  .ite (.bin .lss (.var 2) (.len (.var 0))) (
  .cq [] (.inb (.var 2) (.var 0) cn)<|
  .call [] (.inr (.var 1)) (.cons (.fld (.idx (.var 0) (.var 2)) 0 cn true) .nil)<|
  .ite (.var 3) (
   .ret (.var 2)) (
   .cq [] (.dfd (.bin .add (.var 2) (.int .i64 (1))))<|
   .jmp 0 (.cons (.bin .add (.var 2) (.int .i64 (1))) .nil))) (
  .jmp 1 .nil)) (
  .ret (.int .i64 (-1)))
def dD:Tr:=
 .cq [] (.dfd (.len (.var 0)))<|
 .loop (.cons (.int .i64 (0)) .nil) (
  .cq [] (.dfd (.bin .lss (.var 2) (.len (.var 0))))<|
  .ite (.bin .lss (.var 2) (.len (.var 0))) (
  .cq [] (.inb (.var 2) (.var 0) 1)<|
  .call [] (.inr (.var 1)) (.cons (.fld (.idx (.var 0) (.var 2)) 0 1 false) .nil)<|
  .ite (.var 3) (
   .ret (.var 2)) (
   .cq [] (.dfd (.bin .add (.var 2) (.int .i64 (1))))<|
   .jmp 0 (.cons (.bin .add (.var 2) (.int .i64 (1))) .nil))) (
  .jmp 1 .nil)) (
  .ret (.int .i64 (-1)))
def Fx{α:Type}(p:α->Option Bool):List α->Int->Option Int
 | [],_=>some (-1)
 |x::xs,i=>(p x).bind λb=>if b=true then some i else Fx p xs (i+1)
noncomputable def Gb{α:Type}(xs:List α)(p:α->Option Bool):Option Int:=req (xs.length<=9223372036854775806) (Fx p xs 0)
noncomputable def DR{α:Type}(xs:List α)(p:α->Option Bool):Option Bool:=(Gb xs p).bind λi=>some (decide (i>=0))
noncomputable def Qt{α:Type}(bytes:Nat)(xs:List α):Option (List α):=req ((xs.length:Int)*bytes<=140737488355328/\(xs.length:Int)<=140737488355328) (some xs)
theorem zvL{α:Type}{p:α->Option Bool}{l:List α}{r:Int}{q:Nat}(hq:q<l.length)(h:Fx p (l.drop q) q=some r):∃b,p l[q]=some b/\(b=true->r=q)/\(b=false->Fx p (l.drop (q+1)) ((q+1:Nat):Int)=some r):=by
 rw[Br hq]at h;obtain⟨b,hb,h⟩:=LM h;refine⟨b,hb,?_,?_⟩
 ·rintro rfl;simpa using h.symm
 ·rintro rfl;simpa using h
theorem Xs{α:Type}{av:α->AV}{l:List α}{p:α->Option Bool}{cn g:Nat}{caps:List AV}{r:Int}(hs:∀x,∃cs,av x= .agg cs/\cs.length=cn)(h:Gb l p=some r)(hf:∀x b,p x=some b->Cr Tryz.prog B9 (1000000+g) (av x::caps) (.bool b)):Den (QF cn) (.int .i64 r) [.sl (l.map av), .fn g caps]:=by
 obtain⟨hn,h⟩:=Gm h;unfold Den QF;refine DF (by simp) ?_;refine zyU nM l.length (λq=> [.int .i64 q]) (λq=>Fx p (l.drop q) q=some r) (by simpa using h) (by simp) λq hq hJ W hW=> ?_;by_cases AD:q<l.length
 ·obtain⟨cs,hc,hl⟩:=hs l[q];obtain⟨b,hb,GA,GB⟩:=zvL AD hJ;refine DF (by simp[CK]) (Gu (t:=true) (by simp[CK,AD]) (λ_=> ?_) (by simp));refine DF (λ_=>⟨.i64,q,l.length,by simp,by omega,by simp,by omega,by simp[AD,hc,hl]⟩) (oM (r:= .bool b) (λ_=>⟨g,caps,by simp,?_,by simp⟩) ?_)
  ·have:=hf l[q] b hb;rw[hc]at this;simpa[AD,hc,<-hl]using this
  ·cases b with
   |true=>exact Gu (t:=true) (by simp) (λ_=>KY (by simp[GA rfl])) (by simp)
   |false=>refine Gu (t:=false) (by simp) (by simp) λ_=>DF (by simp[CK]) (W4 ?_);have:=hW AD (GB rfl);simpa[CK,CO (n:=(q:Int)+1) (by omega) (by omega)]using this
 ·have JC:q=l.length:=by omega
  subst JC;have hr:r= -1:=by simpa[Fx]using hJ.symm
  refine DF (by simp[CK]) (Gu (t:=false) (by simp[CK]) (by simp) λ_=>pV ?_);exact KY (by simp[hr])
theorem zyG{α:Type}{av:α->AV}{l:List α}{p:α->Option Bool}{g:Nat}{caps:List AV}{r:Int}(hs:∀x,(av x).cells=[av x])(h:Gb l p=some r)(hf:∀x b,p x=some b->Cr Tryz.prog B9 (1000000+g) (av x::caps) (.bool b)):Den dD (.int .i64 r) [.sl (l.map av), .fn g caps]:=by
 obtain⟨hn,h⟩:=Gm h;unfold Den dD;refine DF (by simp) ?_;refine zyU nM l.length (λq=> [.int .i64 q]) (λq=>Fx p (l.drop q) q=some r) (by simpa using h) (by simp) λq hq hJ W hW=> ?_;by_cases AD:q<l.length
 ·obtain⟨b,hb,GA,GB⟩:=zvL AD hJ;refine DF (by simp[CK]) (Gu (t:=true) (by simp[CK,AD]) (λ_=> ?_) (by simp));refine DF (λ_=>⟨.i64,q,l.length,by simp,by omega,by simp,by omega,by simp[AD,hs]⟩) (oM (r:= .bool b) (λ_=>⟨g,caps,by simp,?_,by simp⟩) ?_)
  ·have:=hf l[q] b hb;simpa[AD,hs]using this
  ·cases b with
   |true=>exact Gu (t:=true) (by simp) (λ_=>KY (by simp[GA rfl])) (by simp)
   |false=>refine Gu (t:=false) (by simp) (by simp) λ_=>DF (by simp[CK]) (W4 ?_);have:=hW AD (GB rfl);simpa[CK,CO (n:=(q:Int)+1) (by omega) (by omega)]using this
 ·have JC:q=l.length:=by omega
  subst JC;have hr:r= -1:=by simpa[Fx]using hJ.symm
  refine DF (by simp[CK]) (Gu (t:=false) (by simp[CK]) (by simp) λ_=>pV ?_);exact KY (by simp[hr])
def OF(f:Nat):Tr:=
 .call [] (.inl f) (.cons (.var 0) (.cons (.var 1) .nil))<|
 .cq [] (.dfd (.bin .geq (.var 2) (.int .i64 (0))))<|
 .ret (.bin .geq (.var 2) (.int .i64 (0)))
theorem TK{α:Type}{l:List α}{p:α->Option Bool}{f:Nat}{x y:AV}{r:Bool}(h:DR l p=some r)(hf:∀i,Gb l p=some i->Cr Tryz.prog B9 f [x,y] (.int .i64 i)):Den (OF f) (.bool r) [x,y]:=by obtain⟨i,hi,h⟩:=LM h;unfold Den OF;refine pU (λ_=>by simpa using hf i hi) (DF (by simp[CK]) (KY ?_));simp only[Ad]at h;simp[CK,<-h]
def XH(bytes sz:Nat):Tr:=
 .cq [] (.dfd (.len (.var 0)))<|
 .cm [] (.var 0)<|
 .ite (.var 1) (
  .ret (.lst .nil)) (
  .cq [] (.room (.lst .nil) (.var 0) bytes)<|
  .cq [] (.flatS (.var 0) sz)<|
  .ret (.app (.lst .nil) (.var 0)))
def rH(bytes sz:Nat):Tr:=
 .cq [] (.dfd (.len (.var 0)))<|
 .cm [] (.var 0)<|
 .ite (.var 1) (
  .ret (.lst .nil)) (
  .cq [] (.room (.lst .nil) (.var 0) bytes)<|
  .cq [] (.issl (.var 0) sz)<|
  .ret (.app (.lst .nil) (.var 0)))
theorem o7{α:Type}{av:α->AV}{xs r:List α}{bytes sz:Nat}(hs:∀x,(av x).cells.length=sz/\ ∀z∈(av x).cells,z.scalar=true)(h:Qt bytes xs=some r):Den (XH bytes sz) (.sl (r.map av)) [.sl (xs.map av)]:=by
 obtain⟨hq,h⟩:=Gm h;cases h;unfold Den XH;refine DF (by simp) λb hb=> ?_;cases b with
 |true=>have:=hb (by simp) rfl;exact Gu (t:=true) (by simp) (λ_=>KY (by simpa using this.symm)) (by simp)
 |false=>exact Gu (t:=false) (by simp) (by simp) λ_=>DF (λ_=>⟨0,xs.length,by simp,by simp,by simpa using hq.1,by simpa using hq.2⟩) (DF (λ_=>zFd (xs:=xs) av (by simp) hs) (KY (by simp)))
theorem zzu{α:Type}{av:α->AV}{xs r:List α}{bytes sz:Nat}(hs:∀x,(av x).cells.length=sz)(h:Qt bytes xs=some r):Den (rH bytes sz) (.sl (r.map av)) [.sl (xs.map av)]:=by
 obtain⟨hq,h⟩:=Gm h;cases h;unfold Den rH;refine DF (by simp) λb hb=> ?_;cases b with
 |true=>have:=hb (by simp) rfl;exact Gu (t:=true) (by simp) (λ_=>KY (by simpa using this.symm)) (by simp)
 |false=>exact Gu (t:=false) (by simp) (by simp) λ_=>DF (λ_=>⟨0,xs.length,by simp,by simp,by simpa using hq.1,by simpa using hq.2⟩) (DF (λ_=>zGa (xs:=xs) av (by simp) hs) (KY (by simp)))
end Go.Proofs.YtalagilebkaegaaGreat
end
section
namespace Go.Proofs.YtalagilebkaegaaGreat
open Go.ChangeShapes Go.WideShapes Go.ChangeAt Go.RowKit
theorem zDc{P:Program}{w:World}:D8 P w [] [] [] [] [] [] [] []:= .nil
theorem zv3{P:Program}{w:World}{t:TypeId}{ts:List TypeId}{v:Value}{vs:List Value}{x:AV}{xs:List AV}{f rf:List Nat}(h:Rd w [v] [x] f)(k:D8 P w ts [] [] vs xs rf [] []):D8 P w (t::ts) [] [] (v::vs) (x::xs) (f++rf) [] []:=
 D8.cons (h:=[]) (hs:=[]) (ms:=[]) (lo:=[]) ⟨h,rfl⟩ k
theorem zDg{P:Program}{sg:B4}{f:Nat}{fn:Func}{t:TypeId}{xs:List AV}(h:Cr P sg f xs (.bool true))(hf:f<1000000){s:Hn}(hs:sg f=some s)(CB:s.ft=[])(I8:∀m∈s.cf,m= .ro)(Ca:Gj P t s.res=false)(IZ:P.funcs[f]?=some fn)(hr:(Dz fn s)=[t])
  {w:World} {vs:List Value} {rf:List Nat} (ha:D8 P w fn.params.toList [] [] vs xs rf [] []) (Ed:Mm.n<=w.heap.size/\Mm.K w):
  Calls P f vs.toArray w λe w'=>e= .returned (.bool true)/\Below w.heap.size w w':=by
 unfold Cr at h;rw[if_pos hf]at h;obtain⟨s',Bh,fn',Kf,_,_,_,_,_,hc⟩:=h;rw[hs]at Bh;obtain rfl:=Option.some.inj Bh;rw[IZ]at Kf;obtain rfl:=Option.some.inj Kf;refine(hc w vs rf [] [] (by rw[CB,AE];exact ha.ir _ _ I8) (by simp) (by simp) (by simp) ⟨Ed.1,Ed.2,by simp⟩).mono λe w' ⟨v,he,hp⟩=> ?_;obtain⟨⟨R,bs,f1,o1,f2,o2,hR,AN,_⟩,hm⟩:=hp;have hRt:R= .bool true:=by
  cases bs with
  |nil=>exact hR.symm
  |cons=>cases hR
 subst hRt;rw[hr]at AN;have h2:Ea P w' t s.res v (.bool true) f1 o1:=AN;unfold Ea at h2;rw[Ca]at h2;obtain⟨h3,_⟩:=h2;have:v= .bool true:=by cases h3;rfl
 subst this;exact⟨he,hm.below⟩
section
variable {P:Program} {t:TypeId} {Q:List AV->Prop} {H:Type} {enc:TypeId × Value->H} {w:World} {spare:Nat->Bool} {held:Bool} {v:Value} {d:DataW H} {p:List MemPlace} {r:Reach} {base:Nat}
theorem zEZ(hO:Ie P t Q)(hc:v.cells= #[v])(h:DataW.Trod enc P w 0 spare held t v d p):∃x f,Rd w [v] [x] f/\Q [x]:=by
 obtain⟨n,h⟩:=h;rw[hc]at h;obtain⟨_,_,xs,f,hr,hq⟩:=hO.2 _ _ _ _ _ _ _ _ h;have hl:=hr.len
 match xs,hl with
 | [x],_=>exact⟨x,f,hr,hq⟩
theorem zvv{e:TypeId}(hO:Ie P t Q)(ht:P.underlying t=some (.slice e))(hv:Value.okWide P w r base t v)(h:DataW.Trod enc P w 0 spare held t v d p):∃x f,Rd w [v] [x] f/\Q [x]:=by obtain⟨a,l,c,rfl⟩:=okWide_slice ht hv;exact zEZ hO rfl h
end
theorem zGl{a b:Bool}(ha:a=true)(hb:b=true):(a&&b)=true:=by rw[ha,hb];rfl
def Mn(n:Int):Prop:=0<=n/\n<=255
def Yc{α:Type}(ok:α->Prop)(l:List α):Prop:=l.length<=9223372036854775807/\ ∀x∈l,ok x
theorem zHx{n:Int}(h:Fl .u8 n):Mn n:=by unfold Fl at h;simp only[IntKind.wrap,IntKind.bits,IntKind.signed]at h;unfold Mn;simp at h;omega
section
variable {P:Program} {t e:TypeId} {α:Type} {ok:α->Prop} {av:α->AV}
theorem zHu(ht:P.underlying t=some (.int .u8))(hc:P.cellsOf t=1):Ie P t λxs=> ∃n,Mn n/\xs=[Ra n]:=
 (zEC ht hc).mono λ_ ⟨n,h,e⟩=>⟨n,zHx h,e⟩
theorem zyM:∀{ys:List AV},(∀y∈ys,La false (λxs=> ∃c,ok c/\xs=[av c]) y)-> ∃l:List α,(∀c∈l,ok c)/\ys=l.map av
 | [],_=>⟨[],by simp,rfl⟩
 |y::ys,h=>by obtain⟨l,hl,rfl⟩:=zyM λz hz=>h z (List.mem_cons_of_mem _ hz);have h0:=h y (List.mem_cons_self ..);simp only[La,Bj,if_false]at h0;obtain⟨_,c,hk,hc⟩:=h0;exact⟨c::l,by simpa using⟨hk,hl⟩,by simp at hc;simp[hc]⟩
theorem zHd(ht:P.underlying t=some (.slice e))(hc:P.cellsOf t=1)(M7:P.cellsOf e=1)(he:Ie P e λxs=> ∃c,ok c/\xs=[av c]):Ie P t λxs=> ∃l:List α,Yc ok l/\xs=[.sl (l.map av)]:=
 (zAu false ht hc he (.inr M7)).mono λ_ ⟨ys,hl,hy,e⟩=>by obtain⟨l,hk,rfl⟩:=zyM hy;exact⟨l,⟨by simpa using hl,hk⟩,e⟩
end
end Go.Proofs.YtalagilebkaegaaGreat
end
section
namespace Go.Proofs.YtalagilebkaegaaGreat
open Go.RowKit
set_option maxRecDepth 100000
structure Ar where
 ao:List UInt8
 bw:List UInt8
 bk:Bool
@[simp] def TE(x:Ar):AV:= .agg [.str x.ao, .str x.bw, .bool x.bk]
structure AL where
 ah:Int
 ak:Int
 bj:Int
 ar:List (List UInt8)
 af:List Ar
@[simp] def Eg(x:AL):AV:= .agg [.int .i64 x.ah, .int .i64 x.ak, .int .i64 x.bj, .sl (x.ar.map DZ), .sl (x.af.map TE)]
structure A8 where
 ah:Int
 bf:Bool
 ak:Int
@[simp] def vT(x:A8):AV:= .agg [.int .i64 x.ah, .bool x.bf, .int .i64 x.ak]
structure Dc where
 ak:Int
 bw:List UInt8
 bk:Bool
@[simp] def MX(x:Dc):AV:= .agg [.int .i64 x.ak, .str x.bw, .bool x.bk]
structure An where
 ao:List UInt8
 bc:List Dc
@[simp] def Es(x:An):AV:= .agg [.str x.ao, .sl (x.bc.map MX)]
structure AT where
 bp:List Int
 dh:Int
 bq:Int
@[simp] def zFo(x:AT):AV:= .agg [.sl (x.bp.map Ra), .int .i64 x.dh, .int .u64 x.bq]
structure Ak where
 ah:Int
 ar:List (List UInt8)
 af:List Ar
@[simp] def uJ(x:Ak):AV:= .agg [.int .i64 x.ah, .sl (x.ar.map DZ), .sl (x.af.map TE)]
structure AS where
 az:Int
 ah:Int
 ak:Int
 bj:Int
 ar:List (List UInt8)
 af:List Ar
 bf:Bool
@[simp] def zG4(x:AS):AV:= .agg [.int .i64 x.az, .int .i64 x.ah, .int .i64 x.ak, .int .i64 x.bj, .sl (x.ar.map DZ), .sl (x.af.map TE), .bool x.bf]
structure Ai where
 ax:Int
 aq:List An
 ae:List AL
 au:List A8
@[simp] def uK(x:Ai):AV:= .agg [.int .i64 x.ax, .sl (x.aq.map Es), .sl (x.ae.map Eg), .sl (x.au.map vT)]
structure Ag where
 aw:List (List UInt8)
 aj:List Ai
 ab:List Ak
@[simp] def zGk(x:Ag):AV:= .agg [.sl (x.aw.map DZ), .sl (x.aj.map uK), .sl (x.ab.map uJ)]
structure BG where
 az:Int
 ah:Int
 bz:Int
 ak:Int
@[simp] def zB6(x:BG):AV:= .agg [.int .i64 x.az, .int .i64 x.ah, .int .i64 x.bz, .int .i64 x.ak]
end Go.Proofs.YtalagilebkaegaaGreat
end
section
namespace Go.Proofs.YtalagilebkaegaaGreat
open Go.ChangeShapes Go.WideShapes Go.ChangeAt Go.RowKit
set_option maxRecDepth 100000
theorem op1:Ie Tryz.prog 5 λxs=> ∃n,Mn n/\xs=[Ra n]:=zHu Tryz.underlying5 (by kernel_rfl)
theorem tJ:Ie Tryz.prog 22 λxs=> ∃l:List Int,Yc Mn l/\xs=[.sl (l.map Ra)]:=zHd Tryz.underlying22 (by kernel_rfl) (by kernel_rfl) op1
end Go.Proofs.YtalagilebkaegaaGreat
end
section
namespace Go.Proofs.YtalagilebkaegaaGreat
open Go.RowKit
set_option maxRecDepth 100000
def Lx{α:Type}(p:α->Option Bool):List α->Option (List α)
 | []=>some []
 |x::xs=>(p x).bind λb=>(Lx p xs).bind λr=>some (if b=true then r else x::r)
noncomputable def P7{α:Type}(xs:List α)(p:α->Option Bool):Option (List α):=req (xs.length<=9223372036854775806) (Lx p xs)
theorem nZ{α:Type}{p:α->Option Bool}(q:α->Bool):∀{l:List α},(∀x∈l,p x=some (q x))->Lx p l=some (l.filter λx=> !q x)
 | [],_=>rfl
 |x::l,h=>by have e:=nZ (p:=p) q (l:=l) λy hy=>h y (List.mem_cons_of_mem _ hy);simp only[Lx,h x (by simp),e,Aa,List.filter_cons];cases q x<;>rfl
theorem zvO{α:Type}{p:α->Option Bool}{l r:List α}{q:Nat}(hq:q<l.length)(h:Lx p (l.drop q)=some r):∃b r',p l[q]=some b/\Lx p (l.drop (q+1))=some r'/\r=if b=true then r' else l[q]::r':=by rw[Br hq]at h;obtain⟨b,hb,h⟩:=LM h;obtain⟨r',hr,h⟩:=LM h;exact⟨b,r',hb,hr,by simpa using h.symm⟩
theorem zZ{α:Type}{p:α->Option Bool}:∀{l r:List α} (i:Int),Lx p l=some r->(Fx p l i=some (-1)/\r=l)\/ ∃k r',k<l.length/\Fx p l i=some (i+(k:Nat))/\Lx p (l.drop (k+1))=some r'/\r=l.take k++r'
 | [],r,i,h=>by cases h;exact .inl ⟨rfl,rfl⟩
 |x::l,r,i,h=>by
  obtain⟨b,hb,h⟩:=LM h;obtain⟨r1,hr,h⟩:=LM h;cases b with
  |true=>
   have:r1=r:=by simpa using h
   subst this;exact .inr ⟨0,r1,by simp,by simp[Fx,hb],by simpa using hr,by simp⟩
  |false=>
   have:r=x::r1:=by simpa using h.symm
   subst this;rcases zZ (i+1) hr with⟨h1,rfl⟩|⟨k,r',h1,h2,h3,rfl⟩
   ·exact .inl ⟨by simp[Fx,hb,h1],rfl⟩
   ·exact .inr ⟨k+1,r',by simp;omega,by simp[Fx,hb,h2];omega,by simpa using h3,by simp⟩
def wB(ck:List Cn)(k:Tr):Tr:=ck.foldr (λc k=> .cq [] c k) k
section
variable {Rt:Nat->List AV->AV->Prop} {R:AV->Prop} {L:LK} {js:List JK} {ρ:List AV}
theorem zyQ:∀{ck:List Cn} {k:Tr},(∀c∈ck,c.den ρ)->k.den Rt R L js ρ->(wB ck k).den Rt R L js ρ
 | [],_,_,hk=>hk
 |c::ck,k,h,hk=>⟨λ_=>h c (by simp),zyQ (λq hq=>h q (by simp[hq])) hk⟩
theorem zC5{t k:Tr}{K:List AV->Prop}(hK:∀vs,K vs->k.den Rt R L js (ρ++vs))(ht:∀j:JK,(∀vs,K vs->j vs)->t.den Rt R L (j::js) ρ):(Tr.join t k).den Rt R L js ρ:=ht _ hK
end
def Yn(fi cn:Nat)(g:Bool)(X:E)(ck:List Cn)(z:E):Tr:=
 .call [] (.inl fi) (.cons (.var 0) (.cons (.var 1) .nil))<|
 .cq [] (.dfd (.bin .eql (.var 2) (.int .i64 (-1))))<|
 .ite (.bin .eql (.var 2) (.int .i64 (-1))) (
  .ret (.var 0)) (
  .cq [] (.dfd (.bin .add (.var 2) (.int .i64 (1))))<|
  .loop (.cons (.var 2) (.cons (.bin .add (.var 2) (.int .i64 (1))) (.cons (.var 0) .nil))) (
  .cq [] (.dfd (.len (.var 5)))<|
  .cq [] (.dfd (.bin .lss (.var 4) (.len (.var 5))))<|
  .ite (.bin .lss (.var 4) (.len (.var 5))) (
   .join (
   .cq [] (.inb (.var 4) (.var 5) cn)<|
   wB ck<|
   .call [] (.inr (.var 1)) (.cons X .nil)<|
   .cq [] (.dfd (.not (.var 6)))<|
   .ite (.not (.var 6)) (
    .cq [] (.inb (.var 3) (.var 5) cn)<|
    .cq [] (.flat X cn g)<|
    .cq [] (.flat (.fld (.idx (.var 5) (.var 3)) 0 cn g) cn g)<|
    .cq [] (.dfd (.bin .add (.var 3) (.int .i64 (1))))<|
    .jmp 0 (.cons (.bin .add (.var 3) (.int .i64 (1))) (.cons (.set (.var 5) (.var 3) (.put (.idx (.var 5) (.var 3)) 0 X g)) .nil))) (
    .jmp 0 (.cons (.var 3) (.cons (.var 5) .nil)))) (
   .cq [] (.dfd (.bin .add (.var 4) (.int .i64 (1))))<|
   .jmp 0 (.cons (.var 6) (.cons (.bin .add (.var 4) (.int .i64 (1))) (.cons (.var 7) .nil))))) (
   .jmp 1 (.cons (.var 3) (.cons (.var 5) .nil)))) (
  .cq [] (.win (.var 4) (.var 3) (.len (.var 4)))<|
  .cq [] (.win (.var 4) (.var 3) (.len (.var 4)))<|
  .cq [] (.dfd (.bin .sub (.len (.var 4)) (.var 3)))<|
  .cq [] (.win (.app (.win (.var 4) (.int .i64 (0)) (.var 3)) (.rep (.bin .sub (.len (.var 4)) (.var 3)) z)) (.int .i64 (0)) (.var 3))<|
  .ret (.win (.app (.win (.var 4) (.int .i64 (0)) (.var 3)) (.rep (.bin .sub (.len (.var 4)) (.var 3)) z)) (.int .i64 (0)) (.var 3))))
theorem tZ{α:Type}{av:α->AV}{l r:List α}{p:α->Option Bool}{fi cn g9:Nat}{g:Bool}{X z:E}{ck:List Cn}{caps:List AV}
  (hs:∀x,(av x).cells.length=cn/\(∀z∈(av x).cells,z.scalar=true)/\(g=true-> ∃cs,av x= .agg cs)/\(g=false->(av x).scalar=true)) (hcn:0<cn)
  (hX:∀(a b c d:AV) (j:Nat) (ys:List AV) (x:α) (tl:List AV),ys[j]?=some (av x)->X.den ([a,b,c,d, .int .i64 j, .sl ys]++tl)=av x)
  (IX:∀(a b c d:AV) (j:Nat) (ys:List AV) (x:α),ys[j]?=some (av x)-> ∀q∈ck,q.den [a,b,c,d, .int .i64 j, .sl ys])
  (h:P7 l p=some r) (hi:∀i,Gb l p=some i->Cr Tryz.prog B9 fi [.sl (l.map av), .fn g9 caps] (.int .i64 i))
  (hf:∀x b,p x=some b->Cr Tryz.prog B9 (1000000+g9) (av x::caps) (.bool b)):Den (Yn fi cn g X ck z) (.sl (r.map av)) [.sl (l.map av), .fn g9 caps]:=by
 obtain⟨hn,h⟩:=Gm h;unfold Den Yn;have Mf:∀x y:α,(av y).di 0 (av x) g=av x:=by
  intro x y;cases g with
  |false=>rfl
  |true=>
   obtain⟨cs,BI⟩:=(hs x).2.2.1 rfl;have e1:=(hs x).1;have e2:=(hs y).1;have e3:(av x).cells=cs:=by rw[BI];rfl
   have e4:(av y).cells.drop (0+cs.length)=[]:=List.drop_eq_nil_of_le (by rw[e2,<-e1,e3];omega);show AV.agg ((av y).cells.take 0++(av x).cells++(av y).cells.drop (0+(av x).cells.length))=av x;rw[e3,e4,AE,List.take_zero,List.nil_append,BI]
 have eR:∀x:α,(av x).fld 0 cn g=av x:=by
  intro x;cases g with
  |false=>have:=zwR ((hs x).2.2.2 rfl);simp[AV.fld,this]
  |true=>obtain⟨cs,BI⟩:=(hs x).2.2.1 rfl;have e1:=(hs x).1;rw[BI]at e1 ⊢;simp only[AV.fld,if_true,AV.cells]at e1 ⊢;rw[List.drop_zero,List.take_of_length_le (by omega)]
 have Cd:∀(e:E) (ρ:List AV) (x:α),e.den ρ=av x->Cn.den ρ (.flat e cn g):=λe ρ x he=>by
  show(e.den ρ).cells.length=cn/\(∀y∈(e.den ρ).cells,y.scalar=true)/\(g=true-> ∃cs,e.den ρ= .agg cs)/\(g=false->(e.den ρ).scalar=true)
  rw[he];exact hs x
 rcases zZ 0 h with⟨h1,rfl⟩|⟨k0,r0,QV,h1,h2,rfl⟩
 ·refine pU (r:= .int .i64 (-1)) (λ_=>hi _ (by unfold Gb;rw[show req (r.length<=9223372036854775806) (Fx p r 0)=Fx p r 0 from if_pos hn];exact h1)) ?_;exact DF (by simp[CK]) (Gu (t:=true) (by simp[CK]) (λ_=>KY (by simp)) (by simp))
 ·refine pU (r:= .int .i64 k0) (λ_=>hi _ (by unfold Gb;rw[show req (l.length<=9223372036854775806) (Fx p l 0)=Fx p l 0 from if_pos hn,h1];simp)) ?_;have hw:IntKind.i64.wrap ((k0:Int)+1)=k0+1:=CO (by omega) (by omega);refine DF (by simp[CK]) (Gu (t:=false) (by simp[CK];try omega) (by simp) λ_=>DF (by simp[CK]) ?_);refine zxT nM (λm vs=> ∃(j:Nat) (K zs r':List α),j+m=l.length/\vs=[.int .i64 K.length, .int .i64 j, .sl (zs.map av)]/\K.length<j/\zs.length=l.length/\zs.take K.length=K/\zs.drop j=l.drop j/\Lx p (l.drop j)=some r'/\l.take k0++r0=K++r') (m:=l.length-(k0+1))
   ⟨k0+1,l.take k0,l,r0,by omega,?_,by simp;omega,rfl,by simp[Nat.min_eq_left (Nat.le_of_lt QV)],rfl,h2,rfl⟩ ?_
  ·simp[CK,hw,Nat.min_eq_left (Nat.le_of_lt QV)]
  rintro m vs ⟨j,K,zs,r',hj,rfl,hKj,Vi,Vj,iA,CN,AN⟩;refine DF (by simp) (DF (by simp[CK]) ?_);by_cases AD:j<l.length
  ·refine Gu (t:=true) (by simp[CK,Vi,AD]) (λ_=> ?_) (by simp);obtain⟨b,r2,hb,D3,s6⟩:=zvO AD CN;have tF:zs[j]?=some l[j]:=by
    have:=congrArg (λL=>L[0]?) iA;simpa[AD]using this
   have Hb:(zs.map av)[j]?=some (av l[j]):=by simp[tF]
   have Ue:K.length<zs.length:=by omega
   have hwj:IntKind.i64.wrap ((j:Int)+1)=j+1:=CO (by omega) (by omega);have hwK:IntKind.i64.wrap ((K.length:Int)+1)=K.length+1:=CO (by omega) (by omega);refine zC5 (K:=λus=> ∃(K' zs':List α),us=[.int .i64 K'.length, .sl (zs'.map av)]/\K'.length<j+1/\zs'.length=l.length/\zs'.take K'.length=K'/\zs'.drop (j+1)=l.drop (j+1)/\l.take k0++r0=K'++r2) ?_ ?_
   ·rintro us ⟨K',zs',rfl,a1,a2,a3,a4,a5⟩;refine DF (by simp[CK]) (W4 ⟨m-1,by omega,j+1,K',zs',r2,by omega,?_,a1,a2,a3,a4,D3,a5⟩);simp[CK,hwj]
   ·intro J hJ;refine DF (λ_=>⟨.i64,j,zs.length,by simp,by omega,by simp,by omega,?_⟩) (zyQ (IX _ _ _ _ j (zs.map av) _ Hb) (oM (r:= .bool b) (λ_=>⟨g9,caps,by simp,?_,by simp⟩) ?_))
    ·simp[AV.nth,tF,(hs l[j]).1]
    ·have e1:=hX (.sl (l.map av)) (.fn g9 caps) (.int .i64 k0) (.int .i64 K.length) j (zs.map av) l[j] [] Hb;rw[AE]at e1;show Cr Tryz.prog B9 (1000000+g9) ([X.den [.sl (l.map av), .fn g9 caps, .int .i64 k0, .int .i64 K.length, .int .i64 j, .sl (zs.map av)]]++caps) (.bool b);rw[e1];exact hf _ _ hb
    ·refine DF (by simp) ?_;have e2:=hX (.sl (l.map av)) (.fn g9 caps) (.int .i64 k0) (.int .i64 K.length) j (zs.map av) l[j] [.bool b] Hb;cases b with
     |true=>refine Gu (t:=false) (by simp) (by simp) λ_=>W4 (hJ _ ⟨K,zs,by simp,by omega,Vi,Vj,?_,by rw[AN,s6];simp⟩);have:=congrArg (List.drop 1) iA;simpa[List.drop_drop]using this
     |false=>
      refine Gu (t:=true) (by simp) (λ_=> ?_) (by simp);obtain⟨zk,Vk⟩:∃zk,zs[K.length]?=some zk:=⟨zs[K.length],by simp[Ue]⟩
      have e3:(E.idx (.var 5) (.var 3)).den ([AV.sl (l.map av), .fn g9 caps, .int .i64 k0, .int .i64 K.length, .int .i64 j, .sl (zs.map av)]++ [.bool false])=av zk:=by simp[AV.nth,Vk]
      refine DF (λ_=>⟨.i64,K.length,zs.length,by simp,by omega,by simp,by omega,?_⟩) (DF (λ_=>Cd _ _ _ e2) (DF (λ_=>Cd _ _ zk ?_) (DF (by simp[CK]) (W4 (hJ _ ⟨K++ [l[j]],zs.set K.length l[j],?_,by simp;omega,by simpa using Vi,?_,?_,by rw[AN,s6];simp⟩)))))
      ·simp[AV.nth,Vk,(hs zk).1]
      ·exact(congrArg (λy=>AV.fld y 0 cn g) e3).trans (eR zk)
      ·have e4:(E.set (.var 5) (.var 3) (.put (.idx (.var 5) (.var 3)) 0 X g)).den ([AV.sl (l.map av), .fn g9 caps, .int .i64 k0, .int .i64 K.length, .int .i64 j, .sl (zs.map av)]++ [.bool false])= .sl ((zs.set K.length l[j]).map av):=by
        show AV.de _ _ (AV.di ((E.idx (.var 5) (.var 3)).den _) 0 (X.den _) g)=_;rw[e3,e2,Mf];simp[AV.de,List.map_set]
       show EL.den _ (.cons (.bin .add (.var 3) (.int .i64 1)) (.cons (.set (.var 5) (.var 3) (.put (.idx (.var 5) (.var 3)) 0 X g)) .nil))=_;simp only[EL.den];have e5:(E.bin .add (.var 3) (.int .i64 1)).den ([AV.sl (l.map av), .fn g9 caps, .int .i64 k0, .int .i64 K.length, .int .i64 j, .sl (zs.map av)]++ [.bool false])= .int .i64 ((K++ [l[j]]).length:Int):=by simp[CK,hwK]
       congr 1;congr 1
      ·rw[AF,AP,List.take_add_one,List.take_set_of_le (AQ _),Vj];simp[Ue]
      ·rw[List.drop_set_of_lt (by omega)];have:=congrArg (List.drop 1) iA;simpa[List.drop_drop]using this
  ·have hje:j=l.length:=by omega
   subst hje;refine Gu (t:=false) (by simp[CK,Vi]) (by simp) λ_=>pV ?_;have JD:r'=[]:=by rw[List.drop_eq_nil_of_le (AQ _)]at CN;exact(by simpa[Lx]using CN.symm)
   subst JD;rw[AN,AE];have Vf:IntKind.i64.wrap ((zs.length:Int)-K.length)=zs.length-K.length:=CO (by omega) (by omega);have d3:(E.var 3).den ([AV.sl (l.map av),AV.fn g9 caps]++ [AV.int .i64 (k0:Int)]++ [AV.int .i64 (K.length:Int),AV.sl (zs.map av)])= .int .i64 K.length:=by simp
   have d4:(E.var 4).den ([AV.sl (l.map av),AV.fn g9 caps]++ [AV.int .i64 (k0:Int)]++ [AV.int .i64 (K.length:Int),AV.sl (zs.map av)])= .sl (zs.map av):=by simp
   have dm:(E.bin .sub (.len (.var 4)) (.var 3)).den ([AV.sl (l.map av),AV.fn g9 caps]++ [AV.int .i64 (k0:Int)]++ [AV.int .i64 (K.length:Int),AV.sl (zs.map av)])= .int .i64 ((zs.length:Int)-K.length):=by simp[CK,Vf]
   have Ja:Cn.den ([AV.sl (l.map av),AV.fn g9 caps]++ [AV.int .i64 (k0:Int)]++ [AV.int .i64 (K.length:Int),AV.sl (zs.map av)]) (.win (.var 4) (.var 3) (.len (.var 4))):=⟨.i64,K.length, .i64,zs.length,zs.length,d3,by simp,by rw[d4];simp,by omega,by omega,by omega⟩
   have dapp:(E.app (.win (.var 4) (.int .i64 (0)) (.var 3)) (.rep (.bin .sub (.len (.var 4)) (.var 3)) z)).den ([AV.sl (l.map av),AV.fn g9 caps]++ [AV.int .i64 (k0:Int)]++ [AV.int .i64 (K.length:Int),AV.sl (zs.map av)])= .sl ((zs.map av).take K.length++List.replicate (zs.length-K.length) (z.den ([AV.sl (l.map av),AV.fn g9 caps]++ [AV.int .i64 (k0:Int)]++ [AV.int .i64 (K.length:Int),AV.sl (zs.map av)]))):=by show AV.app (AV.win ((E.var 4).den _) (.int .i64 0) ((E.var 3).den _)) (AV.rep ((E.bin .sub (.len (.var 4)) (.var 3)).den _) _)=_;rw[d3,d4,dm];simp only[AV.win,AV.rep,AV.app,CE,Int.toNat_zero,List.drop_zero];congr 3;omega
   refine DF (λ_=>Ja) (DF (λ_=>Ja) (DF (λ_=>λhu=>by have:=dm.symm.trans hu;simp at this) (DF (λ_=>⟨.i64,0, .i64,K.length,zs.length,rfl,d3,?_,by omega,by omega,by omega⟩) (KY ?_))))
   ·refine(congrArg AV.len dapp).trans ?_;simp only[AV.len,AF,Au,List.length_map,List.length_replicate];congr 1;omega
   ·refine(congrArg (λy=>AV.win y (.int .i64 0) (.int .i64 K.length)) dapp).trans ?_;simp only[AV.win,CE,Int.toNat_zero,List.drop_zero];rw[List.take_append_of_le_length (by simp;omega),List.take_take,Nat.min_self,<-List.map_take,Vj]
abbrev RtS:Nat->List AV->AV->Prop:=Cr Tryz.prog B9
@[reducible] def Ri:Nat->Type
 |0=>Ar
 |1=>AL
 |2=>A8
 |3=>Dc
 |4=>An
 |5=>AT
 |6=>Ak
 |7=>AS
 |8=>Ai
 |9=>Ag
 |10=>BG
 |_+11=>Unit
@[reducible] def Yo:Nat->List Ty
 |0=> [.s, .s, .b]
 |1=> [.i .i64, .i .i64, .i .i64, .l .s, .l (.st 0)]
 |2=> [.i .i64, .b, .i .i64]
 |3=> [.i .i64, .s, .b]
 |4=> [.s, .l (.st 3)]
 |5=> [.l (.i .u8), .i .i64, .i .u64]
 |6=> [.i .i64, .l .s, .l (.st 0)]
 |7=> [.i .i64, .i .i64, .i .i64, .i .i64, .l .s, .l (.st 0), .b]
 |8=> [.i .i64, .l (.st 4), .l (.st 1), .l (.st 2)]
 |9=> [.l .s, .l (.st 8), .l (.st 6)]
 |10=> [.i .i64, .i .i64, .i .i64, .i .i64]
 |_+11=> []
def PB:∀n,Ri n->AV
 |0,x=>TE x
 |1,x=>Eg x
 |2,x=>vT x
 |3,x=>MX x
 |4,x=>Es x
 |5,x=>zFo x
 |6,x=>uJ x
 |7,x=>zG4 x
 |8,x=>uK x
 |9,x=>zGk x
 |10,x=>zB6 x
 |_+11,_=> .agg []
def jN:∀n,Ri n->HL Ri (Yo n)
 |0,x=>(x.ao,x.bw,x.bk,())
 |1,x=>(x.ah,x.ak,x.bj,x.ar,x.af,())
 |2,x=>(x.ah,x.bf,x.ak,())
 |3,x=>(x.ak,x.bw,x.bk,())
 |4,x=>(x.ao,x.bc,())
 |5,x=>(x.bp,x.dh,x.bq,())
 |6,x=>(x.ah,x.ar,x.af,())
 |7,x=>(x.az,x.ah,x.ak,x.bj,x.ar,x.af,x.bf,())
 |8,x=>(x.ax,x.aq,x.ae,x.au,())
 |9,x=>(x.aw,x.aj,x.ab,())
 |10,x=>(x.az,x.ah,x.bz,x.ak,())
 |_+11,_=>()
def tK:∀n,HL Ri (Yo n)->Ri n
 |0,x=>⟨x.1,x.2.1,x.2.2.1⟩
 |1,x=>⟨x.1,x.2.1,x.2.2.1,x.2.2.2.1,x.2.2.2.2.1⟩
 |2,x=>⟨x.1,x.2.1,x.2.2.1⟩
 |3,x=>⟨x.1,x.2.1,x.2.2.1⟩
 |4,x=>⟨x.1,x.2.1⟩
 |5,x=>⟨x.1,x.2.1,x.2.2.1⟩
 |6,x=>⟨x.1,x.2.1,x.2.2.1⟩
 |7,x=>⟨x.1,x.2.1,x.2.2.1,x.2.2.2.1,x.2.2.2.2.1,x.2.2.2.2.2.1,x.2.2.2.2.2.2.1⟩
 |8,x=>⟨x.1,x.2.1,x.2.2.1,x.2.2.2.1⟩
 |9,x=>⟨x.1,x.2.1,x.2.2.1⟩
 |10,x=>⟨x.1,x.2.1,x.2.2.1,x.2.2.2.1⟩
 |_+11,_=>()
theorem zFV:∀n x,PB n x= .agg (IP PB (Yo n) (jN n x))
 |0,_=>rfl
 |1,_=>rfl
 |2,_=>rfl
 |3,_=>rfl
 |4,_=>rfl
 |5,_=>rfl
 |6,_=>rfl
 |7,_=>rfl
 |8,_=>rfl
 |9,_=>rfl
 |10,_=>rfl
 |_+11,_=>rfl
theorem zEG:∀n h,jN n (tK n h)=h
 |0,_=>rfl
 |1,_=>rfl
 |2,_=>rfl
 |3,_=>rfl
 |4,_=>rfl
 |5,_=>rfl
 |6,_=>rfl
 |7,_=>rfl
 |8,_=>rfl
 |9,_=>rfl
 |10,_=>rfl
 |_+11,_=>rfl
@[reducible] def C7:Jx:=⟨RtS,Ri,PB,Yo,jN,tK,zFV,zEG⟩
abbrev FS:=FN C7
noncomputable def iF(tb:List FS)(hs:List JM)(o:Option Tr)(ps:List PT)(r:RT)(xs:HP C7.car ps)(hp:Ju C7 ps xs):Option (IS C7.car r):=match o with
 |some t=>CP tb 100000 (Q7 r) t hs (Yf ps xs hp) [] []
 |none=>none
theorem zGU{f:Nat}{ps:List PT}{r:RT}{φ:HP C7.car ps->Option (IS C7.car r)}(tb:List FS)(hs:List JM)(h:∀xs hp,iF tb hs (VD Tryz.prog B9 f) ps r xs hp=φ xs)(hk:∀xs y,Yw Tryz.prog B9 f (Gx C7 ps xs) (GZ C7 r y)=true)(xs:HP C7.car ps)(y:IS C7.car r)(hp:Ju C7 ps xs)(e:φ xs=some y):C7.Rt f (Gx C7 ps xs) (GZ C7 r y):=by
 rw[<-h xs hp]at e;unfold iF at e;split at e
 ·rename_i t ht;refine FW ht (hk xs y) ?_;unfold Den;rw[<-uV ps xs hp];exact Fi tb 100000 (fa:=[]) (λ_ h=>nomatch h) (λ_ h=>nomatch h) (λv hv=>qZ r hv) .nil e
 ·cases e
noncomputable def As(f:Nat)(ps:List PT)(r:RT)(φ:HP C7.car ps->Option (IS C7.car r))(tb:List FS)(hs:List JM)(h:∀xs hp,iF tb hs (VD Tryz.prog B9 f) ps r xs hp=φ xs:=by intro _ _;kernel_rfl)(hk:∀xs y,Yw Tryz.prog B9 f (Gx C7 ps xs) (GZ C7 r y)=true:=by intro _ _;kernel_rfl):FS:=
 ⟨f,ps,r,φ,λxs y hp e=>zGU tb hs h hk xs y hp e,false,λh=>by cases h⟩
noncomputable def Hd(d:FS)(h:∀y,iM d.f (GZ C7 d.r y)=true):FS:=
 ⟨d.f,d.ps,d.r,d.φ,d.ok,true,λ_ xs y hx e=>zAK (d.ok xs y hx e) (h y)⟩
noncomputable def D4(f:Nat)(ps:List PT)(r:RT)(φ:HP C7.car ps->Option (IS C7.car r))(ok:∀xs y,Ju C7 ps xs->φ xs=some y->C7.Rt f (Gx C7 ps xs) (GZ C7 r y)):FS:=⟨f,ps,r,φ,ok,false,λh=>by cases h⟩
abbrev RM(s k:Int):Prop:=s*k<=140737488355328/\s<=140737488355328
noncomputable def zHs{α:Type}(f:α->Option α)(a0:List α)(v1:Int)(v2:List α):Option ((Int × List α) ⊕ Option (List α)):=
 if(decide (v1<(a0.length:Int)))then
  (getI a0 v1).bind λy3=>
  (f y3).bind λv4=>
  (getI v2 v1).bind λ_=>
  some (.inl ((IntKind.i64.wrap (v1+1)),(v2.set (v1).toNat v4)))
 else
  some (.inr (some v2))
noncomputable def toL{α:Type}(f:α->Option α)(d:α)(b:Int)(a0:List α):Option (List α):=
 req (0<=(a0.length:Int)/\(a0.length:Int)*b<=140737488355328/\(a0.length:Int)<=140737488355328)<|
 Az (λs:Int × List α=>zHs f a0 s.1 s.2) (0,(List.replicate ((a0.length:Int)).toNat d))
end Go.Proofs.YtalagilebkaegaaGreat
end
section
namespace Go.Proofs.YtalagilebkaegaaGreat
open Go.RowKit
theorem D8.rd{P:Program}{w:World}{ts:List TypeId}{ms:List PM}{lo:List Bool}{vs:List Value}{xs:List AV}{rf lf hs:List Nat}(h:D8 P w ts ms lo vs xs rf lf hs):lo=[]->(∀m∈ms,m= .ro)->Rd w vs xs rf/\hs=[]:=by
 induction h with
 |nil=>intro _ _;exact⟨.nil,rfl⟩
 |lent h1 _ _ _ _=>intro BZ;subst BZ;cases h1
 | @cons t ts ms lo v vs x xs f h rf lf hs Bu _ ih=>
  intro BZ E8;subst BZ;obtain⟨h1,rfl⟩:=ih rfl λm hm=>E8 m (List.mem_of_mem_tail hm);have I8:ms.headD .ro= .ro:=by
   cases ms with
   |nil=>rfl
   |cons m ms=>exact E8 m (by simp)
  rw[I8]at Bu;obtain⟨h2,h3⟩:Rd w [v] [x] f/\h=[]:=Bu;subst h3;exact⟨by simpa using h2.app h1,rfl⟩
 |free h1 _ ih=>intro BZ E8;subst BZ;obtain⟨h2,rfl⟩:=ih rfl λm hm=>E8 m (List.mem_of_mem_tail hm);exact⟨by simpa using h1.app h2,rfl⟩
theorem D7.jd{P:Program}{w:World}:∀{ts:List TypeId} {ms:List PM} {vs:List Value},vs.length=ts.length->(∀m∈ms,m= .ro)->D7 P w ts ms vs [] [] []
 | [],_,vs,_,_=> .nil
 |t::ts,ms,[],h,_=>by simp at h
 |t::ts,ms,v::vs,h,E8=>by
  refine .ro ?_ (D7.jd (by simpa using h) λm hm=>E8 m (List.mem_of_mem_tail hm));cases ms with
  |nil=>rfl
  |cons m ms=>exact E8 m (by simp)
def jK(P:Program)(sg:B4)(f np:Nat)(r:AV):Bool:=
 match P.funcs[f]?,sg f with
 |some fn,some s=>fn.body.isSome&& !(fn.name== "runtime.NumGoroutine")&&Oi P fn s r&&s.cf.all (λm=>match m with| .ro=>true|_=>false)&&fn.params.size==np&&fn.nfree==0&&(s.ft.isEmpty&&s.lo.isEmpty)&&(match(Dz fn s)with| [t]=> !Gj P t s.res|_=>false)
 |_,_=>false
theorem zC6{f:Nat}{xs:List AV}{r:AV}(hk:jK Tryz.prog B9 f xs.length r=true)(hc:∀(w:World) (vs:List Value) (rf:List Nat),Mm.K w->Rd w vs xs rf->Calls Tryz.prog f vs.toArray w λe w'=>Mod [] w w'/\ ∃v f1,e= .returned v/\Rd w' [v] [r] f1/\ ∀b∈f1,b∈rf\/w.heap.size<=b):Cr Tryz.prog B9 f xs r:=by
 unfold jK at hk;split at hk
 ·rename_i fn s hf hs;simp only[Ab,Be,AO,AZ]at hk;obtain⟨⟨⟨⟨⟨⟨⟨h1,h2⟩,h3⟩,h4⟩,h5⟩,h6⟩,CB⟩,h7⟩:=hk;obtain⟨CB,BZ⟩:s.ft=[]/\s.lo=[]:=by simpa using CB
  have I8:∀m∈s.cf,m= .ro:=λm hm=>by
   have:=h4 m hm;split at this
   ·rfl
   ·cases this
  unfold Cr;rw[if_pos (K4 f s hs)];refine⟨s,hs,fn,hf,h1,h2,h3,by omega,by simp[CB],λw vs rf lf Bh Aj hd _ Cb Ed=> ?_⟩;obtain⟨hr,rfl⟩:=Aj.rd BZ I8;refine(hc w vs rf Ed.2.1 hr).mono ?_;rintro e w' ⟨hm,v,f1,rfl,hv,hb⟩;refine⟨v,rfl,⟨⟨r,[],f1,[],[],[],rfl,?_,D7.jd ?_ I8,by simp,by simp,λb Cq=>⟨by simp,?_⟩⟩,hm⟩⟩
  ·unfold Ll;split at h7
   ·rename_i t ht;rw[ht];show Ea Tryz.prog w' t s.res v r f1 [];unfold Ea;rw[if_neg (by rw[Bool.not_eq_true];simpa using h7)];exact⟨hv,rfl⟩
   ·cases h7
  ·rw[hr.len];simp[CB];omega
  ·rcases hb b (by simpa using Cq)with h|h
   ·exact .inl h
   ·exact .inr (.inr h)
 ·cases hk
theorem zEy{f:Nat}{xs:List AV}{r:AV}(hk:jK Tryz.prog B9 f xs.length r=true)(hc:∀(w:World) (vs:List Value) (rf:List Nat),Rd w vs xs rf->Calls Tryz.prog f vs.toArray w λe w'=>Mod [] w w'/\ ∃v f1,e= .returned v/\Rd w' [v] [r] f1/\ ∀b∈f1,b∈rf\/w.heap.size<=b):Cr Tryz.prog B9 f xs r:=
 zC6 hk λw vs rf _ hr=>hc w vs rf hr
theorem iQ{w:World}{s:List UInt8}{vs:List Value}{xs:List AV}{f:List Nat}(h:Rd w vs (.str s::xs) f):∃(b:ByteArray) (us:List Value),vs= .string b::us/\b.data.toList=s/\b.size<=9223372036854775807/\Rd w us xs f:=by
 cases h with
 |str a h=>exact⟨_,_,rfl,rfl,a,h⟩
theorem Oy{w:World}{k:IntKind}{n:Int}{vs:List Value}{xs:List AV}{f:List Nat}(h:Rd w vs (.int k n::xs) f):∃us:List Value,vs= .int k n::us/\Fl k n/\Rd w us xs f:=by
 cases h with
 |int a h=>exact⟨_,rfl,a,h⟩
theorem Om{w:World}{vs:List Value}{f:List Nat}(h:Rd w vs [] f):vs=[]/\f=[]:=by cases h;exact⟨rfl,rfl⟩
end Go.Proofs.YtalagilebkaegaaGreat
end
section
namespace Go.Proofs
open Go.Shelf
def Tryz.ku:Go.Shelf.Ren:=⟨λ|137=>272|217=>302|266=>318|n=>n,λ|9=>9|5=>5|3=>3|n=>n,λ|n=>n⟩
def Tryz.gm:Go.Shelf.Ren:=⟨λ|217=>302|266=>318|n=>n,λ|9=>9|5=>5|3=>3|n=>n,λ|n=>n⟩
theorem Tryz.kf:Go.Proofs.Lays.n217 Tryz.prog Tryz.gm:={
 mixed:=by kernel_rfl
 f217:=Tryz.func302.trans (congrArg some (by kernel_rfl))
 f266:=Tryz.func318.trans (congrArg some (by kernel_rfl))
 t3:=Tryz.underlying3
 a3:=Tryz.isAgg3
 z3:=Tryz.sizeOf3
 v3:=Tryz.zeroValue3
 t5:=Tryz.underlying5
 a5:=Tryz.isAgg5
 z5:=Tryz.sizeOf5
 v5:=Tryz.zeroValue5
 t9:=Tryz.underlying9
 a9:=Tryz.isAgg9
 z9:=Tryz.sizeOf9
 v9:=Tryz.zeroValue9}
open Go.RowKit Go.Lib in
theorem Tryz.stringslite_IndexByte(s:ByteArray)(c:Int)(w:World):
  Calls Tryz.prog 302 #[.string s, .int .u8 c] w λe w'=>e= .returned (.int .i64 (Lib.indexByte s.data.toList c.toNat.toUInt8))/\w'=w:=Any.stringslite_IndexByte Tryz.kf s c w
def Tryz.gx:Go.Shelf.Ren:=⟨λ|190=>228|125=>270|258=>269|128=>300|129=>301|302=>291|303=>292|304=>293|305=>294|306=>295|307=>296|308=>297|309=>298|310=>299|333=>313|329=>314|330=>315|334=>316|335=>317|336=>278|344=>323|n=>n,λ|31=>24|9=>9|3=>3|46=>215|0=>0|51=>301|53=>75|4=>4|183=>295|182=>294|131=>100|5=>5|218=>311|222=>315|228=>319|229=>320|n=>n,λ|n=>n⟩
theorem Tryz.iv:Go.Proofs.Lays.n190 Tryz.prog Tryz.gx:={
 mixed:=by kernel_rfl
 f125:=Tryz.func270.trans (congrArg some (by kernel_rfl))
 f128:=Tryz.func300.trans (congrArg some (by kernel_rfl))
 f129:=Tryz.func301.trans (congrArg some (by kernel_rfl))
 f190:=Tryz.func228.trans (congrArg some (by kernel_rfl))
 f258:=Tryz.func269.trans (congrArg some (by kernel_rfl))
 f302:=Tryz.func291.trans (congrArg some (by kernel_rfl))
 f303:=Tryz.func292.trans (congrArg some (by kernel_rfl))
 f304:=Tryz.func293.trans (congrArg some (by kernel_rfl))
 f305:=Tryz.func294.trans (congrArg some (by kernel_rfl))
 f306:=Tryz.func295.trans (congrArg some (by kernel_rfl))
 f307:=Tryz.func296.trans (congrArg some (by kernel_rfl))
 f308:=Tryz.func297.trans (congrArg some (by kernel_rfl))
 f309:=Tryz.func298.trans (congrArg some (by kernel_rfl))
 f310:=Tryz.func299.trans (congrArg some (by kernel_rfl))
 f329:=Tryz.func314.trans (congrArg some (by kernel_rfl))
 f330:=Tryz.func315.trans (congrArg some (by kernel_rfl))
 f333:=Tryz.func313.trans (congrArg some (by kernel_rfl))
 f334:=Tryz.func316.trans (congrArg some (by kernel_rfl))
 f335:=Tryz.func317.trans (congrArg some (by kernel_rfl))
 f336:=Tryz.func278.trans (congrArg some (by kernel_rfl))
 f344:=Tryz.func323.trans (congrArg some (by kernel_rfl))
 t0:=Tryz.underlying0
 a0:=Tryz.isAgg0
 z0:=Tryz.sizeOf0
 v0:=Tryz.zeroValue0
 t3:=Tryz.underlying3
 a3:=Tryz.isAgg3
 z3:=Tryz.sizeOf3
 v3:=Tryz.zeroValue3
 t4:=Tryz.underlying4
 a4:=Tryz.isAgg4
 z4:=Tryz.sizeOf4
 v4:=Tryz.zeroValue4
 t5:=Tryz.underlying5
 a5:=Tryz.isAgg5
 z5:=Tryz.sizeOf5
 v5:=Tryz.zeroValue5
 t9:=Tryz.underlying9
 a9:=Tryz.isAgg9
 z9:=Tryz.sizeOf9
 v9:=Tryz.zeroValue9
 t31:=Tryz.underlying24
 a31:=Tryz.isAgg24
 z31:=Tryz.sizeOf24
 v31:=Tryz.zeroValue24
 t46:=Tryz.underlying215
 a46:=Tryz.isAgg215
 z46:=Tryz.sizeOf215
 v46:=Tryz.zeroValue215
 t51:=Tryz.underlying301
 a51:=Tryz.isAgg301
 z51:=Tryz.sizeOf301
 v51:=Tryz.zeroValue301
 t53:=Tryz.underlying75
 a53:=Tryz.isAgg75
 z53:=Tryz.sizeOf75
 v53:=Tryz.zeroValue75
 t131:=Tryz.underlying100
 a131:=Tryz.isAgg100
 z131:=Tryz.sizeOf100
 v131:=Tryz.zeroValue100
 t182:=Tryz.underlying294
 a182:=Tryz.isAgg294
 z182:=Tryz.sizeOf294
 v182:=Tryz.zeroValue294
 t183:=Tryz.underlying295
 a183:=Tryz.isAgg295
 z183:=Tryz.sizeOf295
 v183:=Tryz.zeroValue295
 t218:=Tryz.underlying311
 a218:=Tryz.isAgg311
 z218:=Tryz.sizeOf311
 v218:=Tryz.zeroValue311
 t222:=Tryz.underlying315
 a222:=Tryz.isAgg315
 z222:=Tryz.sizeOf315
 v222:=Tryz.zeroValue315
 t228:=Tryz.underlying319
 a228:=Tryz.isAgg319
 z228:=Tryz.sizeOf319
 v228:=Tryz.zeroValue319
 t229:=Tryz.underlying320
 a229:=Tryz.isAgg320
 z229:=Tryz.sizeOf320
 v229:=Tryz.zeroValue320}
open Go.Sort Go.RowKit in
theorem Tryz.slices_Sort_string(blk off cap:Nat)(ss:List (List UInt8))(w:World)(hH:Holds encStr w blk off ss.toArray)(L3:blk<w.heap.size)(Bv:ss.length<4611686018427387904):
  Calls Tryz.prog 228 #[.slice (some ⟨blk,off,none⟩) ss.length cap] w λe w'=>
   e= .returned (.tuple #[])/\ ∃n os,w'=grow (putRow encStr (Sort.ahead w n) blk off (ss.mergeSort λx y=>decide (x<=y)).toArray) os:=Any.slices_Sort_string Tryz.iv blk off cap ss w hH L3 Bv
def Tryz.fu:Go.Shelf.Ren:=⟨λ|20=>172|n=>n,λ|22=>89|3=>3|4=>4|0=>0|n=>n,λ|n=>n⟩
theorem Tryz.fw:Go.Proofs.Lays2.n20 Tryz.prog Tryz.fu:={
 mixed:=by kernel_rfl
 f20:=Tryz.func172.trans (congrArg some (by kernel_rfl))
 t0:=Tryz.underlying0
 a0:=Tryz.isAgg0
 z0:=Tryz.sizeOf0
 v0:=Tryz.zeroValue0
 t3:=Tryz.underlying3
 a3:=Tryz.isAgg3
 z3:=Tryz.sizeOf3
 v3:=Tryz.zeroValue3
 t4:=Tryz.underlying4
 a4:=Tryz.isAgg4
 z4:=Tryz.sizeOf4
 v4:=Tryz.zeroValue4
 t22:=Tryz.underlying89
 a22:=Tryz.isAgg89
 z22:=Tryz.sizeOf89
 v22:=Tryz.zeroValue89
 i3:=by kernel_rfl}
open Go.RowKit Go.Lib Go.Sort in
theorem Tryz.slices_Compact_int(blk off cap:Nat)(zs:List Int)(w:World)(hH:Holds (Value.int .i64) w blk off zs.toArray)(Bv:zs.length<=9223372036854775807)(FB:zs.length<=cap):
  Calls Tryz.prog 172 #[.slice (some ⟨blk,off,none⟩) zs.length cap] w λe w'=>e= .returned (.slice (some ⟨blk,off,none⟩) (Lib.compact zs).length cap)/\ ∃q,w'=putRow (Value.int .i64) (Sort.ahead w q) blk off (Lib.compact zs++List.replicate (zs.length-(Lib.compact zs).length) 0).toArray:=Any.slices_Compact_int Tryz.fw blk off cap zs w hH Bv FB
open Go.RowKit Go.Lib Go.Sort in
theorem Tryz.slices_Compact_int_empty(a:Option Addr)(cap:Nat)(w:World):
  Calls Tryz.prog 172 #[.slice a 0 cap] w λe w'=>e= .returned (.slice a 0 cap)/\w'=w:=Any.slices_Compact_int_empty Tryz.fw a cap w
def Tryz.gv:Go.Shelf.Ren:=⟨λ|194=>229|n=>n,λ|31=>24|9=>9|3=>3|4=>4|0=>0|n=>n,λ|n=>n⟩
theorem Tryz.iw:Go.Proofs.Lays.n194 Tryz.prog Tryz.gv:={
 mixed:=by kernel_rfl
 f194:=Tryz.func229.trans (congrArg some (by kernel_rfl))
 t0:=Tryz.underlying0
 a0:=Tryz.isAgg0
 z0:=Tryz.sizeOf0
 v0:=Tryz.zeroValue0
 t3:=Tryz.underlying3
 a3:=Tryz.isAgg3
 z3:=Tryz.sizeOf3
 v3:=Tryz.zeroValue3
 t4:=Tryz.underlying4
 a4:=Tryz.isAgg4
 z4:=Tryz.sizeOf4
 v4:=Tryz.zeroValue4
 t9:=Tryz.underlying9
 a9:=Tryz.isAgg9
 z9:=Tryz.sizeOf9
 v9:=Tryz.zeroValue9
 t31:=Tryz.underlying24
 a31:=Tryz.isAgg24
 z31:=Tryz.sizeOf24
 v31:=Tryz.zeroValue24}
open Go.RowKit Go.Lib Go.Sort in
theorem Tryz.slices_Compact_string(blk off cap:Nat)(zs:List (List UInt8))(w:World)(hH:Holds encStr w blk off zs.toArray)(Bv:zs.length<=9223372036854775807)(FB:zs.length<=cap):
  Calls Tryz.prog 229 #[.slice (some ⟨blk,off,none⟩) zs.length cap] w λe w'=>e= .returned (.slice (some ⟨blk,off,none⟩) (Lib.compact zs).length cap)/\ ∃q,w'=putRow encStr (Sort.ahead w q) blk off (Lib.compact zs++List.replicate (zs.length-(Lib.compact zs).length) []).toArray:=Any.slices_Compact_string Tryz.iw blk off cap zs w hH Bv FB
open Go.RowKit Go.Lib Go.Sort in
theorem Tryz.slices_Compact_string_empty(a:Option Addr)(cap:Nat)(w:World):
  Calls Tryz.prog 229 #[.slice a 0 cap] w λe w'=>e= .returned (.slice a 0 cap)/\w'=w:=Any.slices_Compact_string_empty Tryz.iw a cap w
open Go.RowKit Go.Sort in
theorem Tryz.slices_Sort_string_none(p:Option Addr)(cap:Nat)(w:World):
  Calls Tryz.prog 228 #[.slice p 0 cap] w λe w'=>e= .returned (.tuple #[])/\w'=w:=Any.slices_Sort_string_none Tryz.iv p cap w
end Go.Proofs
end
section
namespace Go.Proofs.YtalagilebkaegaaGreat
open Go.RowKit
set_option maxRecDepth 100000
theorem zC:∀(l:List UInt8) (c:UInt8), -1<=Lib.indexByte l c/\Lib.indexByte l c<l.length\/Lib.indexByte l c= -1
 | [],_=> .inr rfl
 |b::l,c=>by
  unfold Lib.indexByte;rcases zC l c with h|h
  ·split
   ·left;simp
   ·split
    ·exact .inr rfl
    ·left;rw[Bk];omega
  ·rw[h];split
   ·left;simp
   ·right;rfl
theorem zDm{n:Int}(h1: -9223372036854775808<=n)(h2:n<=9223372036854775807):Fl .i64 n:=CO h1 h2
def YH(s:List UInt8)(c:Int):Option Int:=some (Lib.indexByte s c.toNat.toUInt8)
theorem zh5(a0:List UInt8)(a1 r:Int)(h:YH a0 a1=some r):Cr Tryz.prog B9 302 [.str a0, .int .u8 a1] (.int .i64 r):=zEy (by kernel_rfl) λw vs rf hr=>by
 obtain⟨b,us,rfl,rfl,hb,hr⟩:=iQ hr;obtain⟨us1,rfl,_,hr⟩:=Oy hr;obtain⟨rfl,rfl⟩:=Om hr;refine(Tryz.stringslite_IndexByte b a1 w).mono ?_;rintro e w' ⟨rfl,rfl⟩;cases h;have hl:b.data.toList.length<=9223372036854775807:=by rw[BL];exact hb
 exact⟨Mod.refl [] _,_,[],rfl, .int (by rcases zC b.data.toList a1.toNat.toUInt8 with h|h<;>exact zDm (by omega) (by omega)) .nil,by simp⟩
theorem Z5{P:Program}(w:World)(dT sT ty elem:TypeId)(k:Nat)(g o dLen dCap:Nat)(a:Addr)(sLen sCap:Nat)(cur:Array Value)(t:TypeId)(cs:List Value)
  (hu:P.underlying dT=some (.slice elem)) (hs:(P.info? elem).map (·.size)=some k)
  (hg:w.heap[g]?=some (.cells cur t (0,0))) (hn:cs.length=Nat.min sLen dLen*k)
  (Dr:∀j v,cs[j]?=some v->w.cell? (a.add j)=some v) (E2:o+cs.length<=cur.size) (h1:∀v∈cs,v.oneCell'=true):
  (Builtin.copy_ #[dT,sT] ty #[.slice (some ⟨g,o,none⟩) dLen dCap, .slice (some a) sLen sCap]).run P w=
   .ok (goInt (Nat.min sLen dLen)) (w.setRow g (cur.toList.take o++cs++cur.toList.drop (o+cs.length)).toArray):=by
 have hl:=run_loadCells_list (P:=P) w a cs Dr;have DD:=run_storeCells_at P g o t cs 0 cur w hg (by simpa using E2) h1;cases hq:P.info? elem with
 |none=>simp[hq]at hs
 |some i=>
  have hi:i.size=k:=by simpa[hq]using hs
  rw[hn]at hl;simp[Builtin.copy_,run_underlying hu,Builtin.lenOf,Builtin.firstCells,sizeOf,typeInfo,hq,hi,hl,DD]
theorem mS{P:Program}(w:World){ops:Array Oper}{rest:List Oper}{o:Oper}{a:Act}{Q:Exit->Act->World->Prop}(QU:o.guard=none)(d s:Operand)(t t':TypeId)
  (ho:o.op= .call {callee:= .builtin .copy,args:= #[d,s],argTypes:= #[t,t']}) (v u:Value) (hd:a.eval d=v) (hs:a.eval s=u) {v':Value} {w':World}
  (hr:(Builtin.copy_ #[t,t'] o.type #[v,u]).run P w= .ok v' w') (h:wpList P ops Q rest (a.put o.dst v') w'):wpList P ops Q (o::rest) a w:=
 wpList_plain QU λ_ hK=>by unfold Oper.wp execOp;simp only[ho,resolve,invoke,builtin,Sem.run_bind,Sem.run_pure,Result.andThen_ok,List.map_toArray,List.map_cons,List.map_nil,hd,hs,hr];exact hK _ _ h
theorem zsP{P:Program}{ops:Array Oper}{o:Oper}{a:Act}{w:World}{K:Act->World->Prop}{Q:Exit->Act->World->Prop}{E:Prop}
  (hg:o.guard=none) (d x:Operand) (dT sT:TypeId) (A0:o.op=Op.call {callee:=Callee.builtin Builtin.copy,args:= #[d,x],argTypes:= #[dT,sT]})
  (v u:Value) (hd:a.eval d=v) (hx:a.eval x=u) {v':Value} {w':World} (hr:(Builtin.copy_ #[dT,sT] o.type #[v,u]).run P w= .ok v' w') (hK:K (a.put o.dst v') w'):
  if Region.wanted o (yielded ops a.tmps)=true then Oper.wp P o a w K Q else E:=by
 have hw:Region.wanted o (yielded ops a.tmps)=true:=by simp[Region.wanted,hg]
 rw[if_pos hw];unfold Oper.wp;simp[execOp,A0,resolve,invoke,builtin,hd,hx,hr,Result.andThen];exact hK
def Dj(w:World)(el:TypeId)(k:Nat)(g cap:Nat)(C:Array Value)(n:Nat)(cs:List Value):Prop:=
 n<=cap/\cap<=maxLen/\w.heap[g]?=some (.cells C el (0,0))/\C.size=cap*k/\cs=C.toList.take (n*k)
def PC(w w':World)(el:TypeId)(k:Nat)(own:List Nat)(v:Value)(n:Nat)(cs:List Value):Prop:=
 ∃g cap C,v= .slice (some ⟨g,0,none⟩) n cap/\Dj w' el k g cap C n cs/\Mod own w w'/\(g∈own\/w.heap.size<=g)
def OL(P:Program)(f:Nat)(el:TypeId)(k:Nat):Prop:=
 ∀(w:World) (v:Value) (n i:Nat) (cs:List Value) (own:List Nat) (vb vc m:Nat) (VC:Array Value) (vs:List Value),cs.length=n*k->
  ((n=0/\ ∃q,v= .slice q 0 0)\/ ∃g cap C,v= .slice (some ⟨g,0,none⟩) n cap/\Dj w el k g cap C n cs/\g∈own)->i<=n->Dj w el k vb vc VC m vs->(∀g∈own,vb≠g)->0<m->(n+m)*1000<=140737488355328->
  (∀u∈vs,u.oneCell'=true)->(∀u∈cs,u.oneCell'=true)->
  Calls P f #[v, .int .i64 i, .slice (some ⟨vb,0,none⟩) m vc] w λe w'=> ∃u,e= .returned u/\PC w w' el k own u (n+m) (cs.take (i*k)++vs++cs.drop (i*k))
theorem Dj.cell{w:World}{el:TypeId}{k g cap:Nat}{C:Array Value}{n:Nat}{cs:List Value}(h:Dj w el k g cap C n cs)(off j:Nat)(v:Value)(hj:(cs.drop off)[j]?=some v):w.cell? ((⟨g,off,none⟩:Addr).add j)=some v:=by
 obtain⟨_,_,h3,_,h5⟩:=h;rw[Addr.add_lit,EU h3];rw[List.getElem?_drop,h5,List.getElem?_take]at hj;split at hj
 ·simpa using hj
 ·cases hj
theorem Dj.len{w:World}{el:TypeId}{k g cap:Nat}{C:Array Value}{n:Nat}{cs:List Value}(h:Dj w el k g cap C n cs):cs.length=n*k:=by obtain⟨h1,_,_,h4,h5⟩:=h;have:=BF k h1;rw[h5,Au,BL];omega
theorem zG2{α:Type}(cur cs vs:List α)(i m n:Nat)(hc:cs=cur.take n)(hi:i<=n)(hv:vs.length=m)(hn:n+m<=cur.length):
  let c1:=cur.take (i+m)++cs.drop i++cur.drop (i+m+(cs.drop i).length)
  (c1.take i++vs++c1.drop (i+vs.length)).take (n+m)=cs.take i++vs++cs.drop i:=by
 have AB:cs.length=n:=by rw[hc,Au];omega
 have hd:(cs.drop i).length=n-i:=by rw[Bx,AB]
 intro c1;have e1:c1.take i=cs.take i:=by show(cur.take (i+m)++cs.drop i++_).take i=_;rw[List.append_assoc,List.take_append_of_le_length (by rw[Au];omega),List.take_take,hc,List.take_take];congr 1;omega
 have e2:c1.drop (i+vs.length)=cs.drop i++cur.drop (i+m+(cs.drop i).length):=by show(cur.take (i+m)++cs.drop i++_).drop _=_;rw[List.append_assoc,List.drop_append_of_le_length (by rw[Au,hv];omega),List.drop_eq_nil_of_le (by rw[Au,hv];omega),List.nil_append]
 rw[e1,e2];have l1:(cs.take i++vs++cs.drop i).length=n+m:=by simp only[AF,Au,hv,hd,AB];omega
 rw[<-List.append_assoc,<-l1,List.take_left]
theorem two{α:Type}(zs cs vs:List α)(i m n:Nat)(cur:List α)(eJ:cur=cs.take i++zs)(AB:cs.length=n)(hi:i<=n)(hv:vs.length=m)(hz:n+m-i<=zs.length):
  let c1:=cur.take i++vs++cur.drop (i+vs.length)
  (c1.take (i+m)++cs.drop i++c1.drop (i+m+(cs.drop i).length)).take (n+m)=cs.take i++vs++cs.drop i:=by
 have ht:(cs.take i).length=i:=by rw[Au];omega
 intro c1;have e1:c1=cs.take i++vs++cur.drop (i+vs.length):=by show cur.take i++vs++cur.drop (i+vs.length)=_;rw[eJ];congr 2;rw[List.take_append_of_le_length (by omega),List.take_take,Nat.min_self]
 have e2:c1.take (i+m)=cs.take i++vs:=by
  have l2:(cs.take i++vs).length=i+m:=by rw[AF,ht,hv]
  rw[e1,<-l2,List.take_left]
 rw[e2];have l1:(cs.take i++vs++cs.drop i).length=n+m:=by simp only[AF,ht,hv,Bx,AB];omega
 rw[<-l1,List.take_left]
theorem Tm(xs ys:List AV):Aq (xs++ys)=Aq xs++Aq ys:=by simp[Aq]
theorem S9{K:Nat}{xs:List AV}(h:∀y∈xs,y.cells.length=K){i:Nat}(hi:i<=xs.length):Aq (xs.take i)=(Aq xs).take (i*K)/\Aq (xs.drop i)=(Aq xs).drop (i*K):=by
 have l1:(Aq (xs.take i)).length=i*K:=by rw[Lq _ λy hy=>h y (BA hy),Au,Nat.min_eq_left hi]
 have e:Aq xs=Aq (xs.take i)++Aq (xs.drop i):=by rw[<-Tm,Ck]
 rw[e,<-l1,List.take_left,List.drop_left];exact⟨rfl,rfl⟩
theorem De.j9{w:World}{el K:Nat}{v:Value}{x:AV}{top:List Nat}(h:De w el K v x top []):∃xs cs,x= .sl xs/\0<K/\(∀y∈xs,y.cells.length=K)/\cs.length=xs.length*K/\Rd w cs (Aq xs) []/\(∀u∈cs,u.oneCell'=true)/\
  ((xs=[]/\top=[]/\ ∃q,v= .slice q 0 0)\/ ∃g cap C,v= .slice (some ⟨g,0,none⟩) xs.length cap/\Dj w el K g cap C xs.length cs/\top=[g]):=by
 obtain⟨xs,rfl,h2,h3,⟨rfl,⟨a,hv⟩,rfl,_⟩|⟨g,cap,C,rfl,h6,h7,h8,h9,rfl,FA,EZ⟩⟩:=h
 ·exact⟨[],[],rfl,h3,h2,by simp,by simpa[Aq]using Rd.nil,by simp, .inl ⟨rfl,rfl,a,hv⟩⟩
 ·exact⟨xs,_,rfl,h3,h2,(Dj.len ⟨h6,h7,h8,h9,rfl⟩),EZ,FA, .inr ⟨g,cap,C,rfl,⟨h6,h7,h8,h9,rfl⟩,rfl⟩⟩
theorem bA{P:Program}{w:World}{t el:TypeId}{v:Value}{x:AV}{rf hs:List Nat}(ha:Ap P t=false)(hl:Bl P t=[t])(he:C3 P t=some el)(hf:Cg P el=true)(h:OE P w t [true] v x rf hs):rf=[]/\De w el (P.cellsOf el) v x hs []:=by
 obtain⟨us,ys,h1,h2⟩:=h;rw[ha]at h1;simp only[Bj,if_false]at h1;obtain⟨rfl,rfl⟩:=h1;rw[hl]at h2;cases h2 with
 |own q1 q2 q3 q4 q5=>
  cases q5;rw[he]at q2;cases q2;rcases q3 with⟨_,rfl⟩|⟨h,_⟩
  ·exact⟨rfl,by simpa using q4⟩
  ·rw[hf]at h;cases h
 |deep q1 q2 q3=>rw[he]at q2;cases q2;rw[hf]at q3;cases q3
 |rd q1=>have:=q1 rfl;rw[he]at this;cases this
def jL(P:Program)(sg:B4)(f:Nat)(t it el K:Nat):Bool:=
 match P.funcs[f]?,sg f with
 |some fn,some s=>(match s.cf,s.res,s.ft,s.lo with
  | [.va [true], .ro, .va [true]],[true],[],[]=>true
  |_,_,_,_=>false)&&fn.body.isSome&& !(fn.name== "runtime.NumGoroutine")&&fn.params.toList==[t,it,t]&&(Dz fn s)==[t]&&fn.nfree==0&& !Ap P t&&Bl P t==[t]&&C3 P t==some el&&Cg P el&&P.cellsOf el==K&&Gj P t [true]&&fn.params.size==3
 |_,_=>false
def H7(P:Program)(sg:B4)(f:Nat)(r:List AV):Bool:=match P.funcs[f]?,sg f with
 |some fn,some s=>Oi P fn s (.sl r)
 |_,_=>false
theorem zFv{f t it el K:Nat}(hk:jL Tryz.prog B9 f t it el K=true)(Ca:∀r,H7 Tryz.prog B9 f r=true)(FD:OL Tryz.prog f el K)(xs ys:List AV)(i:Int)(h0:0<=i)(h1:i<=xs.length)(hy:ys≠ [])(hb:(xs.length+ys.length)*1000<=140737488355328):
  Cr Tryz.prog B9 f [.sl xs, .int .i64 i, .sl ys] (.sl (xs.take i.toNat++ys++xs.drop i.toNat)):=by
 unfold jL at hk;split at hk
 ·rename_i fn s hf hs;simp only[Ab,Be,AO]at hk;obtain⟨⟨⟨⟨⟨⟨⟨⟨⟨⟨⟨⟨g1,g2⟩,g3⟩,g4⟩,g5⟩,g6⟩,g7⟩,g8⟩,g9⟩,g10⟩,g11⟩,g12⟩,g13⟩:=hk;obtain⟨hm,hr,CB,BZ⟩:s.cf=[.va [true], .ro, .va [true]]/\s.res=[true]/\s.ft=[]/\s.lo=[]:=by
   split at g1
   ·rename_i a b c d;exact⟨a,b,c,d⟩
   ·cases g1
  unfold Cr;rw[if_pos (K4 f s hs)];refine⟨s,hs,fn,hf,g2,g3,by have:=Ca (xs.take i.toNat++ys++xs.drop i.toNat);unfold H7 at this;rw[hf,hs]at this;exact this,by simp[g6,g13],by simp[CB],λw vs rf lf Bh Aj hd _ Cb Ed=> ?_⟩;rw[g4,CB,AE,hm,BZ]at Aj;cases Aj with
  |lent h _ _ _=>cases h
  | @cons _ _ _ _ v1 vs1 _ _ f1 k1 rf1 lf1 BR a1 Aj=>
   cases Aj with
   |lent h _ _ _=>cases h
   | @cons _ _ _ _ v2 vs2 _ _ f2 k2 rf2 lf2 Bi a2 Aj=>
    cases Aj with
    |lent h _ _ _=>cases h
    | @cons _ _ _ _ v3 vs3 _ _ f3 k3 rf3 lf3 HB a3 Aj=>
     cases Aj;obtain⟨rfl,r1⟩:=bA g7 g8 g9 g10 a1;obtain⟨rfl,r3⟩:=bA g7 g8 g9 g10 a3;obtain⟨a2,rfl⟩:Rd w [v2] [AV.int .i64 i] f2/\k2=[]:=a2;obtain⟨us,rfl2,hI,a2⟩:=Oy a2;obtain⟨rfl,rfl⟩:=Om a2;cases rfl2;obtain⟨xs',cs,e1,p0,p1,p2,p3,p4,p5⟩:=r1.j9;cases e1;obtain⟨ys',cv,e2,_,q1,q2,q3,q4,q5⟩:=r3.j9;cases e2;rw[g11]at p0 p1 p2 p5 q1 q2 q5;obtain⟨vb,vc,VC,rfl,hv,rfl⟩:∃g cap C,v3= .slice (some ⟨g,0,none⟩) ys.length cap/\Dj w el K g cap C ys.length cv/\k3=[g]:=by
      rcases q5 with⟨h,_⟩|h
      ·exact absurd h hy
      ·exact h
     have hnd':k1++ [vb]=k1++([]++([vb]++ [])):=by simp
     have Jy:∀g∈k1,vb≠g:=by intro g hg e;subst e;have:=(List.nodup_append.1 Cb).2.2 vb hg vb (by simp);exact this rfl
     have iB:0<ys.length:=by cases ys with|nil=>exact absurd rfl hy|cons=>simp
     have hc:=FD w v1 xs.length i.toNat cs k1 vb vc ys.length VC cv p2 (by
      rcases p5 with⟨rfl,_,q,rfl⟩|⟨g,cap,C,rfl,h,rfl⟩
      ·exact .inl ⟨rfl,q,rfl⟩
      ·exact .inr ⟨g,cap,C,rfl,h,by simp⟩) (by omega) hv Jy iB hb q4 p4
     rw[show((i.toNat:Nat):Int)=i by omega]at hc;refine hc.mono ?_;rintro e w' ⟨u,rfl,g,cap,C,rfl,⟨z1,z2,z3,z4,z5⟩,Bp,D2⟩;have Jz:∀{us:List Value} {zs:List AV},Rd w us zs []->Rd w' us zs []:=λh=>h.frame (by simp);have cut:∀o n,Rd w ((cs.drop o).take n) (((Aq xs).drop o).take n) []:=λo n=>by
      obtain⟨gg,k1,k2⟩:=p3.piece o n;have:gg=[]:=List.eq_nil_iff_forall_not_mem.2 λb hb=>by simpa using k1 b hb
      rw[this]at k2;exact k2
     obtain⟨t1,t2⟩:=S9 p1 (i:=i.toNat) (by omega);have hmul:=BF K (show i.toNat<=xs.length by omega);have Dn:Rd w' (cs.take (i.toNat*K)++cv++cs.drop (i.toNat*K)) (Aq (xs.take i.toNat++ys++xs.drop i.toNat)) []:=by rw[Tm,Tm,t1,t2];have c1:=cut 0 (i.toNat*K);have c2:=cut (i.toNat*K) (cs.length-i.toNat*K);rw[List.drop_zero,List.drop_zero]at c1;rw[List.take_of_length_le (by simp),List.take_of_length_le (by rw[Bx,Lq _ p1,p2];exact AQ _)]at c2;exact(((Jz c1).app (Jz q3)).app (Jz c2))
     have hlen:(xs.take i.toNat++ys++xs.drop i.toNat).length=xs.length+ys.length:=by simp only[AF,Au,Bx];omega
     have Bq:De w' el K (.slice (some ⟨g,0,none⟩) (xs.length+ys.length) cap) (.sl (xs.take i.toNat++ys++xs.drop i.toNat)) [g] []:=by
      refine⟨_,rfl,λy hy=> ?_,p0, .inr ⟨g,cap,C,by rw[hlen],by rw[hlen];exact z1,z2,z3,z4,rfl,?_,?_⟩⟩
      ·rcases Ac.1 hy with hy|hy
       ·rcases Ac.1 hy with hy|hy
        ·exact p1 y (BA hy)
        ·exact q1 y hy
       ·exact p1 y (BM hy)
      ·rw[hlen,<-z5];intro u hu;rcases Ac.1 hu with hu|hu
       ·rcases Ac.1 hu with hu|hu
        ·exact p4 u (BA hu)
        ·exact q4 u hu
       ·exact p4 u (BM hu)
      ·rw[hlen,<-z5];exact Dn
     refine⟨_,rfl,⟨⟨_,[],[],[g],[],[],rfl,?_,?_,by simp,?_,by simp⟩,Bp.weaken λb hb=> .inl (by simp[hb])⟩⟩
     ·rw[g5];show Ea Tryz.prog w' t s.res _ _ [] [g];unfold Ea;rw[hr,if_pos g12];refine⟨[.slice (some ⟨g,0,none⟩) (xs.length+ys.length) cap],[.sl (xs.take i.toNat++ys++xs.drop i.toNat)],by rw[g7];simp,?_⟩;rw[g8];have:=CA.own (P:=Tryz.prog) (t:=t) (ts:=[]) (fl:=[true]) (us:=[]) (ys:=[]) (rf:=[]) (hs:=[]) rfl g9 (.inl ⟨g10,rfl⟩) (by rw[g11];exact Bq) .nil;simpa using this
     ·rw[g4,CB,AE,hm];exact .va rfl (.ro rfl (.va rfl .nil))
     ·intro b hb;simp only[AE,List.mem_singleton]at hb;subst hb;exact⟨by rcases D2 with h|h;exact .inl (by simp[h]);exact .inr h,Dh z3⟩
 ·cases hk
noncomputable def IA{α:Type}(xs:List α)(i:Int)(ys:List α):Option (List α):=req (0<=i/\i<=xs.length/\0<ys.length/\(xs.length+ys.length)*1000<=140737488355328) (some (xs.take i.toNat++ys++xs.drop i.toNat))
theorem zFu{f t it el K:Nat}(hk:jL Tryz.prog B9 f t it el K=true)(Ca:∀r,H7 Tryz.prog B9 f r=true)(FD:OL Tryz.prog f el K){α:Type}{av:α->AV}{xs ys r:List α}{i:Int}(h:IA xs i ys=some r):
  Cr Tryz.prog B9 f [.sl (xs.map av), .int .i64 i, .sl (ys.map av)] (.sl (r.map av)):=by
 obtain⟨⟨h0,h1,h2,h3⟩,h⟩:=Gm h;cases h;have:=zFv hk Ca FD (xs.map av) (ys.map av) i h0 (by simpa using h1) (by cases ys with|nil=>simp at h2|cons=>simp) (by simpa using h3);simpa[List.map_append,List.map_take,List.map_drop]using this
theorem aV{P:Program}{w:World}{t el K:Nat}{l:AA}{v:Value}{x:AV}{rf hs:List Nat}(ha:Ap P t=false)(hl:Bl P t=[t])(he:C3 P t=some el)(hf:Cg P el=false)(hd:DK P t=some (.row el K l))(h:OE P w t [true] v x rf hs):rf=[]/\DC w [.row el K l] [v] [x] hs:=by
 obtain⟨us,ys,h1,h2⟩:=h;rw[ha]at h1;simp only[Bj,if_false]at h1;obtain⟨rfl,rfl⟩:=h1;rw[hl]at h2;cases h2 with
 |own q1 q2 q3 q4 q5=>
  rw[he]at q2;cases q2;rcases q3 with⟨h,_⟩|⟨_,h⟩
  ·rw[hf]at h;cases h
  ·rw[hd]at h;cases h
 |deep q1 q2 q3 q4 q5 q6=>cases q6;rw[hd]at q4;cases q4;exact⟨rfl,by simpa using q5⟩
 |rd q1=>have:=q1 rfl;rw[he]at this;cases this
theorem pA(l:List DT){n i:Nat}(hi:i<=n):Bz n l=Bz i l++Bz (n-i) l:=by rw[<-Lu];congr 1;omega
theorem DC.cut{w:World}{xs:List AV}{l:List DT}{K:Nat}{cs:List Value}{N:List Nat}(hK:l.length=K)(h:DC w (Bz xs.length l) cs (Aq xs) N)(hx:∀y∈xs,y.cells.length=K){i:Nat}(hi:i<=xs.length):
  ∃N1 N2,N=N1++N2/\DC w (Bz i l) (cs.take (i*K)) (Aq (xs.take i)) N1/\DC w (Bz (xs.length-i) l) (cs.drop (i*K)) (Aq (xs.drop i)) N2:=by
 have hlen:=h.len;have t1:=S9 hx hi;have hmul:=BF K hi;rw[pA l hi,<-Ck (i*K) cs,<-Ck (i*K) (Aq xs)]at h;rw[Lt,hK]at hlen;obtain⟨N1,N2,rfl,h1,h2⟩:=DC.ec (by rw[Lt,hK,Au];omega) (by rw[Lt,hK,Au];omega) h;exact⟨N1,N2,rfl,by rw[t1.1];exact h1,by rw[t1.2];exact h2⟩
def iZ(P:Program)(sg:B4)(f:Nat)(t it el K:Nat)(l:List DT):Bool:=
 match P.funcs[f]?,sg f with
 |some fn,some s=>(match s.cf,s.res,s.ft,s.lo with
  | [.va [true], .ro, .va [true]],[true],[],[]=>true
  |_,_,_,_=>false)&&fn.body.isSome&& !(fn.name== "runtime.NumGoroutine")&&fn.params.toList==[t,it,t]&&(Dz fn s)==[t]&&fn.nfree==0&& !Ap P t&&Bl P t==[t]&&C3 P t==some el&& !Cg P el&&KX (DK P t) el K l&&Gj P t [true]&&fn.params.size==3
 |_,_=>false
theorem zC2{f t it el K:Nat}{l:List DT}(hk:iZ Tryz.prog B9 f t it el K l=true)(Ca:∀r,H7 Tryz.prog B9 f r=true)(FD:OL Tryz.prog f el K)(xs ys:List AV)(i:Int)(h0:0<=i)(h1:i<=xs.length)(hy:ys≠ [])(hb:(xs.length+ys.length)*1000<=140737488355328):
  Cr Tryz.prog B9 f [.sl xs, .int .i64 i, .sl ys] (.sl (xs.take i.toNat++ys++xs.drop i.toNat)):=by
 unfold iZ at hk;split at hk
 ·rename_i fn s hf hs;simp only[Ab,Be,AO]at hk;obtain⟨⟨⟨⟨⟨⟨⟨⟨⟨⟨⟨⟨g1,g2⟩,g3⟩,g4⟩,g5⟩,g6⟩,g7⟩,g8⟩,g9⟩,g10⟩,g11⟩,g12⟩,g13⟩:=hk;have g11:=N8 g11;obtain⟨hm,hr,CB,BZ⟩:s.cf=[.va [true], .ro, .va [true]]/\s.res=[true]/\s.ft=[]/\s.lo=[]:=by
   split at g1
   ·rename_i a b c d;exact⟨a,b,c,d⟩
   ·cases g1
  unfold Cr;rw[if_pos (K4 f s hs)];refine⟨s,hs,fn,hf,g2,g3,by have:=Ca (xs.take i.toNat++ys++xs.drop i.toNat);unfold H7 at this;rw[hf,hs]at this;exact this,by simp[g6,g13],by simp[CB],λw vs rf lf Bh Aj hd _ Cb Ed=> ?_⟩;rw[g4,CB,AE,hm,BZ]at Aj;cases Aj with
  |lent h _ _ _=>cases h
  | @cons _ _ _ _ v1 vs1 _ _ f1 k1 rf1 lf1 BR a1 Aj=>
   cases Aj with
   |lent h _ _ _=>cases h
   | @cons _ _ _ _ v2 vs2 _ _ f2 k2 rf2 lf2 Bi a2 Aj=>
    cases Aj with
    |lent h _ _ _=>cases h
    | @cons _ _ _ _ v3 vs3 _ _ f3 k3 rf3 lf3 HB a3 Aj=>
     cases Aj;obtain⟨rfl,r1⟩:=aV g7 g8 g9 g10 g11 a1;obtain⟨rfl,r3⟩:=aV g7 g8 g9 g10 g11 a3;obtain⟨a2,rfl⟩:Rd w [v2] [AV.int .i64 i] f2/\k2=[]:=a2;obtain⟨us,rfl2,hI,a2⟩:=Oy a2;obtain⟨rfl,rfl⟩:=Om a2;cases rfl2;obtain⟨p0,pl,r1'⟩:=r1.inv;obtain⟨_,_,⟨a,_,e2,_⟩|⟨vb,vc,VC,ys',M,rfl,e2,rfl,q1,q2,q3,q4,q5,q6,q7⟩⟩:=r3.inv
     ·cases e2;exact absurd rfl hy
     cases e2;rw[AA.ay]at pl q7;have iB:0<ys.length:=by cases ys with|nil=>exact absurd rfl hy|cons=>simp
     have hv:Dj w el K vb vc VC ys.length (VC.toList.take (ys.length*K)):=⟨q2,q3,q1,q4,rfl⟩
     obtain⟨cs,own,N,e1,G5,AB,AX,hsin,fZ,gI,Ii⟩:∃(cs:List Value) (own N:List Nat),k1=own++N/\own.length<=1/\cs.length=xs.length*K/\
       ((xs.length=0/\ ∃q,v1= .slice q 0 0)\/ ∃g cap C,v1= .slice (some ⟨g,0,none⟩) xs.length cap/\Dj w el K g cap C xs.length cs/\g∈own)/\(∀g∈own,g∈k1)/\(∀u∈cs,u.oneCell'=true)/\(∀y∈xs,y.cells.length=K)/\DC w (Bz xs.length l) cs (Aq xs) N:=by
      rcases r1' with⟨a,rfl,e1,rfl⟩|⟨g,cap,C,xs',N,rfl,e1,rfl,d1,d2,d3,d4,d5,d6,d7⟩
      ·cases e1;exact⟨[],[],[],rfl,by simp,by simp, .inl ⟨rfl,a,rfl⟩,by simp,by simp,by simp,by simpa[Bz,Aq]using DC.nil⟩
      ·cases e1;rw[AA.ay]at d7;have hR:Dj w el K g cap C xs.length (C.toList.take (xs.length*K)):=⟨d2,d3,d1,d4,rfl⟩
       exact⟨_,[g],N,rfl,by simp,hR.len, .inr ⟨g,cap,C,rfl,hR,by simp⟩,by simp,d6,d5,d7⟩
     subst e1;have Cm:i.toNat<=xs.length:=by omega
     have Jy:∀g∈own,vb≠g:=by intro g hg e;subst e;have hn:((own++N)++([]++((vb::M)++ []))).Nodup:=Cb;exact(List.nodup_append.1 hn).2.2 vb (by simp[hg]) vb (by simp) rfl
     have hc:=FD w v1 xs.length i.toNat cs own vb vc ys.length VC _ AB AX Cm hv Jy iB hb q6 fZ;rw[show((i.toNat:Nat):Int)=i by omega]at hc;refine hc.mono ?_;rintro e w' ⟨u,rfl,g,cap,C,rfl,⟨z1,z2,z3,z4,z5⟩,Bp,D2⟩;have Eo:((own++N)++(vb::M)).Nodup:=by simpa using Cb
     have fY:∀b∈N,b∉own:=λb hb ho=>(List.nodup_append.1 (List.nodup_append.1 Eo).1).2.2 b ho b hb rfl;have sV:∀b∈M,b∉own:=λb hb ho=>(List.nodup_append.1 Eo).2.2 b (by simp[ho]) b (by simp[hb]) rfl;have fN:=Ii.frame (w':=w') λb hb=>Bp.block b (Ii.inb b hb) (fY b hb);have fM:=q7.frame (w':=w') λb hb=>Bp.block b (q7.inb b hb) (sV b hb);obtain⟨N1,N2,rfl,c1,c2⟩:=fN.cut pl gI Cm;have hlen:(xs.take i.toNat++ys++xs.drop i.toNat).length=xs.length+ys.length:=by simp only[AF,Au,Bx];omega
     have B5:DC w' (Bz (xs.length+ys.length) l) (C.toList.take ((xs.length+ys.length)*K)) (Aq (xs.take i.toNat++ys++xs.drop i.toNat)) (N1++M++N2):=by rw[<-z5,Tm,Tm,show xs.length+ys.length=(i.toNat+ys.length)+(xs.length-i.toNat) by omega,Lu,Lu];exact(c1.app fM).app c2
     have Bq:DC w' [.row el K (AA.of l)] [.slice (some ⟨g,0,none⟩) (xs.length+ys.length) cap] [.sl (xs.take i.toNat++ys++xs.drop i.toNat)] (g::(N1++M++N2)):=by
      have:=DC.row (w:=w') (e:=el) (z:=K) (l:=AA.of l) (g:=g) (cap:=cap) (C:=C) (ys:=xs.take i.toNat++ys++xs.drop i.toNat) (N1:=N1++M++N2) (ts:=[]) (vs:=[]) (xs:=[]) (N:=[]) p0 (by rw[AA.ay];exact pl) z3 (by rw[hlen];exact z1) z2 z4 (λy hy=> ?_) (by
       rw[hlen,<-z5];intro u hu;rcases Ac.1 hu with hu|hu
       ·rcases Ac.1 hu with hu|hu
        ·exact fZ u (BA hu)
        ·exact q6 u hu
       ·exact fZ u (BM hu)) (by rw[hlen,AA.ay];exact B5) .nil
      ·rw[hlen]at this;simpa using this
      ·rcases Ac.1 hy with hy|hy
       ·rcases Ac.1 hy with hy|hy
        ·exact gI y (BA hy)
        ·exact q5 y hy
       ·exact gI y (BM hy)
     have B7:∀b∈N1++M++N2,b∈(own++(N1++N2))++(vb::M):=λb hb=>by simp only[Ac,Ae]at hb ⊢;rcases hb with(hb|hb)|hb<;>simp[hb]
     have Mc:(N1++M++N2).Nodup:=by
      have h1:((N1++N2)++M).Nodup:=((List.nodup_append.1 Eo).1.sublist (List.sublist_append_right _ _)|>λa=>List.nodup_append.2 ⟨a,((List.nodup_append.1 Eo).2.1).sublist (List.sublist_cons_self _ _),λp hp q hq=>(List.nodup_append.1 Eo).2.2 p (List.mem_append_right _ hp) q (List.mem_cons_of_mem _ hq)⟩)
      exact(List.Perm.nodup_iff (by rw[List.append_assoc,List.append_assoc];exact List.Perm.append_left _ List.perm_append_comm)).1 h1
     have hgn:g∉N1++M++N2:=by
      intro Dd;rcases D2 with hg|hg
      ·simp only[Ac]at Dd;rcases Dd with(Dd|Dd)|Dd
       ·exact fY g (by simp[Dd]) hg
       ·exact sV g Dd hg
       ·exact fY g (by simp[Dd]) hg
      ·simp only[Ac]at Dd;rcases Dd with(Dd|Dd)|Dd
       ·have:=Ii.inb g (by simp[Dd]);omega
       ·have:=q7.inb g Dd;omega
       ·have:=Ii.inb g (by simp[Dd]);omega
     refine⟨_,rfl,⟨⟨_,[],[],g::(N1++M++N2),[],[],rfl,?_,?_,?_,?_,by simp⟩,Bp.weaken λb hb=> .inl (by simp[hb])⟩⟩
     ·rw[g5];show Ea Tryz.prog w' t s.res _ _ [] _;unfold Ea;rw[hr,if_pos g12];refine⟨[.slice (some ⟨g,0,none⟩) (xs.length+ys.length) cap],[.sl (xs.take i.toNat++ys++xs.drop i.toNat)],by rw[g7];simp,?_⟩;rw[g8];have:=CA.deep (P:=Tryz.prog) (t:=t) (ts:=[]) (fl:=[true]) (us:=[]) (ys:=[]) (rf:=[]) (hs:=[]) rfl g9 g10 g11 Bq .nil;simpa using this
     ·rw[g4,CB,AE,hm];exact .va rfl (.ro rfl (.va rfl .nil))
     ·rw[AE];exact List.nodup_cons.2 ⟨hgn,Mc⟩
     ·intro b hb;rw[AE]at hb;rcases Ae.1 hb with rfl|hb
      ·exact⟨by rcases D2 with h|h;exact .inl (by simp[h]);exact .inr h,Dh z3⟩
      ·have:=B7 b hb;refine⟨.inl (by simpa using this),?_⟩;have AD:b<w.heap.size:=by
        simp only[Ac,Ae]at hb;rcases hb with(hb|hb)|hb
        ·exact Ii.inb b (by simp[hb])
        ·exact q7.inb b hb
        ·exact Ii.inb b (by simp[hb])
       have:=Bp.size;omega
 ·cases hk
theorem zqW{P:Program}(w:World)(t ty el:TypeId)(i:TypeInfo)(ht:P.underlying t=some (.slice el))(hi:P.info? el=some i)(k:Nat)(hk:i.size=k)(g n cap:Nat)(a:Addr)(m c:Nat)(cur:Array Value)(news:List Value)
  (hg:w.heap[g]?=some (.cells cur el (0,0))) (hl:news.length=m*k) (Dk:∀j u,news[j]?=some u->w.cell? (a.add j)=some u) (h1:∀u∈news,u.oneCell'=true) (BW:n+m<=cap) (E2:n*k+news.length<=cur.size):
  (Builtin.append_ #[t,t] ty #[.slice (some ⟨g,0,none⟩) n cap, .slice (some a) m c]).run P w= .ok (.slice (some ⟨g,0,none⟩) (n+m) cap) (w.setRow g (cur.toList.take (n*k)++news++cur.toList.drop (n*k+news.length)).toArray):=by
 subst hk;have UD:=run_firstCells_some (P:=P) w i.size m a m c news hl Dk;have DD:=run_storeCells_at P g (n*i.size) el news 0 cur w hg (by simpa using E2) h1;simp only[Nat.add_zero]at DD;simp[Builtin.append_,run_underlying ht,sizeOf,typeInfo,hi,Builtin.lenOf,BW,UD,Addr.add_lit,DD]
theorem zzi{P:Program}(w:World)(t el ty:TypeId)(z:Value)(ht:P.underlying t=some (.slice el))(hv:∀w,(zeroValue el).run P w= .ok z w)(h1:∀u∈z.cells,u.oneCell'=true)(g o n c:Nat)(cur:Array Value)(hn:0<n)
  (hg:w.heap[g]?=some (.cells cur el (0,0))) (E2:o+n*z.cells.size<=cur.size):
  (Builtin.clear_ #[t] ty #[.slice (some ⟨g,o,none⟩) n c]).run P w= .ok (.tuple #[]) (w.setRow g (cur.toList.take o++(Builtin.zeroCells z.cells n).toList++cur.toList.drop (o+(Builtin.zeroCells z.cells n).toList.length)).toArray):=by
 have DD:=run_storeCells_at P g o el (Builtin.zeroCells z.cells n).toList 0 cur w hg (by simpa[size_zeroCells]using E2) (λu hu=>by
  have hu:u∈Builtin.zeroCells z.cells n:=by simpa using hu
  unfold Builtin.zeroCells at hu;obtain⟨j,hj,rfl⟩:=Array.mem_map.1 hu;have hj:j<n*z.cells.size:=by simpa using hj
  have h0:0<z.cells.size:=by
   rcases Nat.eq_zero_or_pos z.cells.size with h|h
   ·rw[h]at hj;omega
   ·exact h
  rw[getElem!_pos z.cells _ (Nat.mod_lt _ h0)];exact h1 _ (Array.getElem_mem _))
 simp only[Nat.add_zero]at DD;obtain⟨m,rfl⟩:∃m,n=m+1:=⟨n-1,by omega⟩
 simp[Builtin.clear_,run_underlying ht,hv,DD]
theorem zqJ{P:Program}{ops:Array Oper}{o:Oper}{a:Act}{w:World}{K:Act->World->Prop}{Q:Exit->Act->World->Prop}{E:Prop}
  (hg:o.guard=none) (s x:Operand) (t:TypeId) (A0:o.op=Op.call {callee:=Callee.builtin Builtin.append,args:= #[s,x],argTypes:= #[t,t]})
  (v u:Value) (hs:a.eval s=v) (hx:a.eval x=u) {v':Value} {w':World} (hr:∀ty,(Builtin.append_ #[t,t] ty #[v,u]).run P w= .ok v' w') (hK:K (a.put o.dst v') w'):
  if Region.wanted o (yielded ops a.tmps)=true then Oper.wp P o a w K Q else E:=by
 have hw:Region.wanted o (yielded ops a.tmps)=true:=by simp[Region.wanted,hg]
 rw[if_pos hw];unfold Oper.wp;simp[execOp,A0,resolve,invoke,builtin,hs,hx,hr,Result.andThen];exact hK
def iS(P:Program)(f:Nat)(el:TypeId)(k:Nat):Prop:=
 ∀(w:World) (n i j g cap:Nat) (C:Array Value) (cs:List Value),Dj w el k g cap C n cs->i<j->j<=n->(∀u∈cs,u.oneCell'=true)->
  Calls P f #[.slice (some ⟨g,0,none⟩) n cap, .int .i64 i, .int .i64 j] w λe w'=> ∃C',e= .returned (.slice (some ⟨g,0,none⟩) (n-(j-i)) cap)/\Dj w' el k g cap C' (n-(j-i)) (cs.take (i*k)++cs.drop (j*k))/\Mod [g] w w'
def iV(P:Program)(sg:B4)(f:Nat)(t it el K:Nat)(l:List DT):Bool:=
 match P.funcs[f]?,sg f with
 |some fn,some s=>(match s.cf,s.res,s.ft,s.lo with
  | [.va [true], .ro, .ro],[true],[],[]=>true
  |_,_,_,_=>false)&&fn.body.isSome&& !(fn.name== "runtime.NumGoroutine")&&fn.params.toList==[t,it,it]&&(Dz fn s)==[t]&&fn.nfree==0&& !Ap P t&&Bl P t==[t]&&C3 P t==some el&& !Cg P el&&KX (DK P t) el K l&&Gj P t [true]&&fn.params.size==3
 |_,_=>false
theorem zDM{f t it el K:Nat}{l:List DT}(hk:iV Tryz.prog B9 f t it el K l=true)(Ca:∀r,H7 Tryz.prog B9 f r=true)(J9:iS Tryz.prog f el K)(xs:List AV)(i j:Int)(h0:0<=i)(h1:i<j)(h2:j<=xs.length):
  Cr Tryz.prog B9 f [.sl xs, .int .i64 i, .int .i64 j] (.sl (xs.take i.toNat++xs.drop j.toNat)):=by
 unfold iV at hk;split at hk
 ·rename_i fn s hf hs;simp only[Ab,Be,AO]at hk;obtain⟨⟨⟨⟨⟨⟨⟨⟨⟨⟨⟨⟨g1,g2⟩,g3⟩,g4⟩,g5⟩,g6⟩,g7⟩,g8⟩,g9⟩,g10⟩,g11⟩,g12⟩,g13⟩:=hk;have g11:=N8 g11;obtain⟨hm,hr,CB,BZ⟩:s.cf=[.va [true], .ro, .ro]/\s.res=[true]/\s.ft=[]/\s.lo=[]:=by
   split at g1
   ·rename_i a b c d;exact⟨a,b,c,d⟩
   ·cases g1
  unfold Cr;rw[if_pos (K4 f s hs)];refine⟨s,hs,fn,hf,g2,g3,by have:=Ca (xs.take i.toNat++xs.drop j.toNat);unfold H7 at this;rw[hf,hs]at this;exact this,by simp[g6,g13],by simp[CB],λw vs rf lf Bh Aj hd _ Cb Ed=> ?_⟩;rw[g4,CB,AE,hm,BZ]at Aj;cases Aj with
  |lent h _ _ _=>cases h
  | @cons _ _ _ _ v1 vs1 _ _ f1 k1 rf1 lf1 BR a1 Aj=>
   cases Aj with
   |lent h _ _ _=>cases h
   | @cons _ _ _ _ v2 vs2 _ _ f2 k2 rf2 lf2 Bi a2 Aj=>
    cases Aj with
    |lent h _ _ _=>cases h
    | @cons _ _ _ _ v3 vs3 _ _ f3 k3 rf3 lf3 HB a3 Aj=>
     cases Aj;obtain⟨rfl,r1⟩:=aV g7 g8 g9 g10 g11 a1;obtain⟨a2,rfl⟩:Rd w [v2] [AV.int .i64 i] f2/\k2=[]:=a2;obtain⟨us,rfl2,hI,a2⟩:=Oy a2;obtain⟨rfl,rfl⟩:=Om a2;cases rfl2;obtain⟨a3,rfl⟩:Rd w [v3] [AV.int .i64 j] f3/\k3=[]:=a3;obtain⟨us,rfl3,hJ,a3⟩:=Oy a3;obtain⟨rfl,rfl⟩:=Om a3;cases rfl3;obtain⟨p0,pl,⟨a,rfl,e1,rfl⟩|⟨g,cap,C,xs',N,rfl,e1,rfl,d1,d2,d3,d4,d5,d6,d7⟩⟩:=r1.inv
     ·cases e1;simp at h2;omega
     cases e1;rw[AA.ay]at d7 pl;have hR:Dj w el K g cap C xs.length (C.toList.take (xs.length*K)):=⟨d2,d3,d1,d4,rfl⟩
     have hc:=J9 w xs.length i.toNat j.toNat g cap C _ hR (by omega) (by omega) d6;rw[show((i.toNat:Nat):Int)=i by omega,show((j.toNat:Nat):Int)=j by omega]at hc;refine hc.mono ?_;rintro e w' ⟨C',rfl,⟨z1,z2,z3,z4,z5⟩,Bp⟩;have Eo:(g::N).Nodup:=by simpa using Cb
     have eV:g∉N:=(List.nodup_cons.1 Eo).1;have fN:=d7.frame (w':=w') λb hb=>Bp.block b (d7.inb b hb) (λh=>by rw[List.mem_singleton]at h;subst h;exact eV hb);obtain⟨N1,N2',rfl,c1,_⟩:=fN.cut pl d5 (show i.toNat<=xs.length by omega);obtain⟨N1',N2,e3,_,c2⟩:=fN.cut pl d5 (show j.toNat<=xs.length by omega);have hlen:(xs.take i.toNat++xs.drop j.toNat).length=xs.length-(j.toNat-i.toNat):=by simp only[AF,Au,Bx];omega
     obtain⟨NA,NB,NC,eN,k1,_,k3⟩:=fN.split (i.toNat*K) ((j.toNat-i.toNat)*K);have ti:=S9 d5 (show i.toNat<=xs.length by omega);have tj:=S9 d5 (show j.toNat<=xs.length by omega);have Ew:i.toNat*K+(j.toNat-i.toNat)*K=j.toNat*K:=by rw[<-Nat.add_mul,show i.toNat+(j.toNat-i.toNat)=j.toNat by omega]
     have eA:(Bz xs.length l).take (i.toNat*K)=Bz i.toNat l:=by
      have hli:(Bz i.toNat l).length=i.toNat*K:=by rw[Lt,pl]
      rw[pA l (show i.toNat<=xs.length by omega),<-hli];exact List.take_left
     have eC:(Bz xs.length l).drop (j.toNat*K)=Bz (xs.length-j.toNat) l:=by
      have hlj:(Bz j.toNat l).length=j.toNat*K:=by rw[Lt,pl]
      rw[pA l (show j.toNat<=xs.length by omega),<-hlj];exact List.drop_left
     rw[eA,<-ti.1]at k1;rw[Ew,eC,<-tj.2]at k3;have B5:DC w' (Bz (xs.length-(j.toNat-i.toNat)) l) (C'.toList.take ((xs.length-(j.toNat-i.toNat))*K)) (Aq (xs.take i.toNat++xs.drop j.toNat)) (NA++NC):=by rw[<-z5,Tm,show xs.length-(j.toNat-i.toNat)=i.toNat+(xs.length-j.toNat) by omega,Lu];exact k1.app k3
     have Nt:(g::(NA++NC)).Sublist (g::(N1++N2')):=by rw[eN];refine List.Sublist.cons_cons _ ?_;rw[List.append_assoc];exact List.Sublist.append (List.Sublist.refl _) (List.sublist_append_right _ _)
     have Bq:DC w' [.row el K (AA.of l)] [.slice (some ⟨g,0,none⟩) (xs.length-(j.toNat-i.toNat)) cap] [.sl (xs.take i.toNat++xs.drop j.toNat)] (g::(NA++NC)):=by
      have:=DC.row (w:=w') (e:=el) (z:=K) (l:=AA.of l) (g:=g) (cap:=cap) (C:=C') (ys:=xs.take i.toNat++xs.drop j.toNat) (N1:=NA++NC) (ts:=[]) (vs:=[]) (xs:=[]) (N:=[]) p0 (by rw[AA.ay];exact pl) z3 (by rw[hlen];exact z1) z2 z4 (λy hy=> ?_) (by
       rw[hlen,<-z5];intro u hu;rcases Ac.1 hu with hu|hu
       ·exact d6 u (BA hu)
       ·exact d6 u (BM hu)) (by rw[hlen,AA.ay];exact B5) .nil
      ·rw[hlen]at this;simpa using this
      ·rcases Ac.1 hy with hy|hy
       ·exact d5 y (BA hy)
       ·exact d5 y (BM hy)
     refine⟨_,rfl,⟨⟨_,[],[],g::(NA++NC),[],[],rfl,?_,?_,?_,?_,by simp⟩,Bp.weaken λb hb=> .inl (by simp at hb;simp[hb])⟩⟩
     ·rw[g5];show Ea Tryz.prog w' t s.res _ _ [] _;unfold Ea;rw[hr,if_pos g12];refine⟨[.slice (some ⟨g,0,none⟩) (xs.length-(j.toNat-i.toNat)) cap],[.sl (xs.take i.toNat++xs.drop j.toNat)],by rw[g7];simp,?_⟩;rw[g8];have:=CA.deep (P:=Tryz.prog) (t:=t) (ts:=[]) (fl:=[true]) (us:=[]) (ys:=[]) (rf:=[]) (hs:=[]) rfl g9 g10 g11 Bq .nil;simpa using this
     ·rw[g4,CB,AE,hm];exact .va rfl (.ro rfl (.ro rfl .nil))
     ·rw[AE];exact Eo.sublist Nt
     ·intro b hb;rw[AE]at hb;have Cq:=Nt.subset hb;refine⟨.inl (by simpa using Cq),?_⟩;have AD:b<w.heap.size:=by
       rcases Ae.1 Cq with rfl|Cq
       ·exact Dh d1
       ·exact d7.inb b Cq
      have:=Bp.size;omega
 ·cases hk
noncomputable def W2{α:Type}(xs:List α)(i j:Int):Option (List α):=req (0<=i/\i<j/\j<=xs.length) (some (xs.take i.toNat++xs.drop j.toNat))
theorem zAg{f t it el K:Nat}{l:List DT}(hk:iV Tryz.prog B9 f t it el K l=true)(Ca:∀r,H7 Tryz.prog B9 f r=true)(J9:iS Tryz.prog f el K){α:Type}{av:α->AV}{xs r:List α}{i j:Int}(h:W2 xs i j=some r):
  Cr Tryz.prog B9 f [.sl (xs.map av), .int .i64 i, .int .i64 j] (.sl (r.map av)):=by
 obtain⟨⟨h0,h1,h2⟩,h⟩:=Gm h;cases h;have:=zDM hk Ca J9 (xs.map av) i j h0 h1 (by simpa using h2);simpa[List.map_append,List.map_take,List.map_drop]using this
theorem zx4{f t it el K:Nat}{l:List DT}(hk:iZ Tryz.prog B9 f t it el K l=true)(Ca:∀r,H7 Tryz.prog B9 f r=true)(FD:OL Tryz.prog f el K){α:Type}{av:α->AV}{xs ys r:List α}{i:Int}(h:IA xs i ys=some r):
  Cr Tryz.prog B9 f [.sl (xs.map av), .int .i64 i, .sl (ys.map av)] (.sl (r.map av)):=by
 obtain⟨⟨h0,h1,h2,h3⟩,h⟩:=Gm h;cases h;have:=zC2 hk Ca FD (xs.map av) (ys.map av) i h0 (by simpa using h1) (by cases ys with|nil=>simp at h2|cons=>simp) (by simpa using h3);simpa[List.map_append,List.map_take,List.map_drop]using this
class IQ(P:Program)(el K:Nat)(st it ov:outParam Nat):Prop where
 u:P.underlying st=some (.slice el)
 v:P.underlying it=some (.int .i64)
 i:∃i z,P.info? el=some i/\i.size=K/\i.zero=some z/\z.cells.size=K/\i.bytes<=1000/\0<K
 o:∃fn bt,P.funcs[ov]?=some fn/\(fn.name== "runtime.NumGoroutine")=false/\fn.body.isNone=true/\Extern.findNext fn=none/\Extern.find fn=some (Extern.SlicesOverlaps.overlaps #[st,st] #[bt])
def vK(P:Program)(el K:Nat):Bool:=match P.info? el with
 |some i=>(match i.zero with|some z=>i.size==K&&z.cells.size==K&&decide (i.bytes<=1000)&&decide (0<K)|none=>false)
 |none=>false
theorem rL{P:Program}{el K:Nat}(h:vK P el K=true):∃i z,P.info? el=some i/\i.size=K/\i.zero=some z/\z.cells.size=K/\i.bytes<=1000/\0<K:=by
 unfold vK at h;split at h
 ·rename_i i hi;split at h
  ·rename_i z hz;simp only[Ab,AO,AJ]at h;exact⟨i,z,hi,h.1.1.1,hz,h.1.1.2,h.1.2,h.2⟩
  ·cases h
 ·cases h
def Ys(P:Program)(f el K:Nat):Prop:= ∀(w:World) (v:Value) (n:Nat) (cs:List Value) (own:List Nat) (vb vc m:Nat) (VC:Array Value) (vs:List Value),cs.length=n*K->
 ((n=0/\ ∃q,v= .slice q 0 0)\/ ∃g cap C,v= .slice (some ⟨g,0,none⟩) n cap/\Dj w el K g cap C n cs/\g∈own)->Dj w el K vb vc VC m vs->0<m->(n+m)*1000<=140737488355328->(∀u∈vs,u.oneCell'=true)->
 Calls P f #[v, .int .i64 n, .slice (some ⟨vb,0,none⟩) m vc] w λe w'=> ∃u,e= .returned u/\PC w w' el K own u (n+m) (cs++vs)
def Yv(P:Program)(f el K:Nat):Prop:= ∀(w:World) (n i g cap:Nat) (C:Array Value) (cs:List Value) (own:List Nat) (vb vc m:Nat) (VC:Array Value) (vs:List Value),Dj w el K g cap C n cs->i<n->cap<n+m->Dj w el K vb vc VC m vs->0<m->(n+m)*1000<=140737488355328->
 (∀u∈vs,u.oneCell'=true)->(∀u∈cs,u.oneCell'=true)->
 Calls P f #[.slice (some ⟨g,0,none⟩) n cap, .int .i64 i, .slice (some ⟨vb,0,none⟩) m vc] w λe w'=> ∃u,e= .returned u/\PC w w' el K own u (n+m) (cs.take (i*K)++vs++cs.drop (i*K))
def Yt(P:Program)(f el K:Nat):Prop:= ∀(w:World) (n i g cap:Nat) (C:Array Value) (cs:List Value) (own:List Nat) (vb vc m:Nat) (VC:Array Value) (vs:List Value),Dj w el K g cap C n cs->g∈own->i<n->n+m<=cap->vb≠g->Dj w el K vb vc VC m vs->0<m->
 (∀u∈vs,u.oneCell'=true)->(∀u∈cs,u.oneCell'=true)->
 Calls P f #[.slice (some ⟨g,0,none⟩) n cap, .int .i64 i, .slice (some ⟨vb,0,none⟩) m vc] w λe w'=> ∃u,e= .returned u/\PC w w' el K own u (n+m) (cs.take (i*K)++vs++cs.drop (i*K))
theorem pY{P:Program}{f el K:Nat}(h1:Ys P f el K)(h2:Yv P f el K)(h3:Yt P f el K):OL P f el K:=by
 intro w v n i cs own vb vc m VC vs AB AX Cm hv Q3 hm hb G3 G2;by_cases he:i=n
 ·subst he;refine(h1 w v i cs own vb vc m VC vs AB AX hv hm hb G3).mono ?_;rintro e w' ⟨u,rfl,h⟩;refine⟨u,rfl,?_⟩;rw[List.take_of_length_le (by omega),List.drop_eq_nil_of_le (by omega),AE];exact h
 ·rcases AX with⟨rfl,_⟩|⟨g,cap,C,rfl,hr,hg⟩
  ·omega
  ·by_cases hc:n+m<=cap
   ·exact h3 w n i g cap C cs own vb vc m VC vs hr hg (by omega) hc (Q3 g hg) hv hm G3 G2
   ·exact h2 w n i g cap C cs own vb vc m VC vs hr (by omega) (by omega) hv hm hb G3 G2
theorem zCE{P:Program}{el K st it ov:Nat}[hI:IQ P el K st it ov]{w:World}{v:Value}{n:Nat}{cs:List Value}{own:List Nat}{vb vc m:Nat}{VC:Array Value}{vs:List Value}(AB:cs.length=n*K)
  (AX:(n=0/\ ∃q,v= .slice q 0 0)\/ ∃g cap C,v= .slice (some ⟨g,0,none⟩) n cap/\Dj w el K g cap C n cs/\g∈own) (hv:Dj w el K vb vc VC m vs) (hm:0<m) (hb:(n+m)*1000<=140737488355328) (G3:∀u∈vs,u.oneCell'=true):
  ∃v' w1,(Builtin.append_ #[st,st] st #[v, .slice (some ⟨vb,0,none⟩) m vc]).run P w= .ok v' w1/\PC w w1 el K own v' (n+m) (cs++vs):=by
 obtain⟨i0,z0,hi,hs,hz,CY,ES,hK⟩:=hI.i;have Dr:Src w i0.size (some ⟨vb,0,none⟩) m vs:= .inr ⟨_,rfl,by rw[hs];exact hv.len,λj u hj=>hv.cell 0 j u (by simpa using hj),G3⟩;obtain⟨v',w1,hr,AN⟩:=Qw (P:=P) w st st el i0 z0 hI.u hi hz (by rw[CY,hs]) (by omega) (λb=>b∈own) v n cs (by rw[hs];exact AB)
  (by
   rcases AX with h|⟨g,cap,C,rfl,⟨h1,h2,h3,h4,h5⟩,h6⟩
   ·exact .inl h
   ·exact .inr ⟨g,cap,C,rfl,h1,h2,h3,by rw[hs];exact h4,by rw[hs];exact h5,h6⟩)
  (some ⟨vb,0,none⟩) m vc vs Dr (by simp only[maxLen];omega) (by have:=Nat.mul_le_mul_left (n+m) ES;omega)
 refine⟨v',w1,hr,?_⟩;rcases AN with⟨_,_,h⟩|⟨g,cap,C,rfl,h1,h2,h3,h4,h5,h6,h7⟩
 ·omega
 ·refine⟨g,cap,C,rfl,⟨h1,h2,h3,by rw[hs]at h4;exact h4,by rw[hs]at h5;exact h5.symm⟩,?_,h7.symm.imp id λh=>by omega⟩;refine⟨h6.os,h6.tape,h6.output,h6.size,λb hb hn=>h6.block b hb λe=> ?_⟩;cases e;rcases h7 with h7|h7
  ·omega
  ·exact hn h7
theorem zDI{P:Program}{el K st it ov:Nat}[hI:IQ P el K st it ov]{w:World}{n i g cap:Nat}{C:Array Value}{cs:List Value}(own:List Nat){vb vc m:Nat}{VC:Array Value}{vs:List Value}(AX:Dj w el K g cap C n cs)(Cm:i<n)(BW:cap<n+m)
  (hv:Dj w el K vb vc VC m vs) (hm:0<m) (hb:(n+m)*1000<=140737488355328) (G3:∀u∈vs,u.oneCell'=true) (G2:∀u∈cs,u.oneCell'=true):
  ∃(G:Nat) (ROW ROW2 ROW3:Array Value),n+m<=G/\G<=9223372036854775807/\
   (∀ty,(Builtin.append_ #[st,it] ty #[.slice (some ⟨g,0,none⟩) i cap, .int .i64 ((n:Int)+(m:Int)-(i:Int))]).run P w= .ok (.slice (some ⟨w.heap.size,0,none⟩) (n+m) G) (w.drew.alloc (.cells ROW el)))/\
   (∀(W:World),W.heap=(w.alloc (.cells ROW el)).heap-> ∀ty dc,(Builtin.copy_ #[st,st] ty #[.slice (some ⟨w.heap.size,i*K,none⟩) (n+m-i) dc, .slice (some ⟨vb,0,none⟩) m vc]).run P W= .ok (goInt m) (W.setRow w.heap.size ROW2))/\
   (∀(W:World),W.heap=((w.alloc (.cells ROW el)).setRow w.heap.size ROW2).heap-> ∀ty dc sc,(Builtin.copy_ #[st,st] ty #[.slice (some ⟨w.heap.size,(i+m)*K,none⟩) (n+m-(i+m)) dc, .slice (some ⟨g,i*K,none⟩) (n-i) sc]).run P W= .ok (goInt ((n-i:Nat):Int)) (W.setRow w.heap.size ROW3))/\
   (∀W:World,W.os=w.os->W.tape=w.tape->W.output=w.output->W.heap=(((w.alloc (.cells ROW el)).setRow w.heap.size ROW2).setRow w.heap.size ROW3).heap->PC w W el K own (.slice (some ⟨w.heap.size,0,none⟩) (n+m) G) (n+m) (cs.take (i*K)++vs++cs.drop (i*K)))/\
   ((w.alloc (.cells ROW el)).drew).heap=(w.alloc (.cells ROW el)).heap/\(((w.alloc (.cells ROW el)).drew.setRow w.heap.size ROW2).drew).heap=((w.alloc (.cells ROW el)).setRow w.heap.size ROW2).heap:=by
 obtain⟨i0,z0,hi,hs,hz,CY,ES,hK⟩:=hI.i;have AB:=AX.len;have EK:=hv.len;have Ur:=AX;obtain⟨Mb,Gq,hg,J4,BI⟩:=Ur;have Kg:g<w.heap.size:=Dh hg;have hvw:vb<w.heap.size:=Dh hv.2.2.1;have Bv:(P.info? el).map (·.size)=some K:=by rw[hi];simp[hs]
 have sM:i+(n+m-i)=n+m:=by omega
 have XU:(n+m)*i0.bytes<=140737488355328:=Nat.le_trans (Nat.mul_le_mul_left _ ES) hb;have XV:(n+m-i)*i0.bytes<=140737488355328:=Nat.le_trans (BF _ (by omega)) XU;have fD:i*K<=n*K:=BF _ (by omega);have hold:(Builtin.firstCells i0.size i (.slice (some ⟨g,0,none⟩) i cap)).run P w.drew= .ok (cs.take (i*K)).toArray w.drew:=by
  rw[hs];exact run_firstCells_some w.drew K i ⟨g,0,none⟩ i cap (cs.take (i*K)) (by rw[Au];omega) (λj v hj=>by
   rw[List.getElem?_take]at hj;split at hj
   ·exact AX.cell 0 j v (by simpa using hj)
   ·cases hj)
 have Q1:∀ty,(Builtin.append_ #[st,it] ty #[.slice (some ⟨g,0,none⟩) i cap, .int .i64 ((n:Int)+(m:Int)-(i:Int))]).run P w=
   .ok (.slice (some ⟨w.heap.size,0,none⟩) (n+m) (grownCap w (n+m) cap el)) (w.drew.alloc (.cells ((cs.take (i*K)).toArray++Builtin.zeroCells z0.cells (n+m-i)++Builtin.zeroCells z0.cells (grownCap w (n+m) cap el-(n+m))) el)):=λty=>by
  have h:=Lib.run_append_grow_zeros w st it ty el i0 z0 .i64 .i64 hI.u hI.v hi hz (some ⟨g,0,none⟩) i cap (cs.take (i*K)) hold (n+m-i) (by omega) (by omega) (by omega) (by omega) (by omega) (by rw[sM];exact growslice_fits BW XU);rw[sM]at h;rw[show(n:Int)+(m:Int)-(i:Int)=((n+m-i:Nat):Int) by omega];exact h
 obtain⟨G,hG⟩:∃G,G=grownCap w (n+m) cap el:=⟨_,rfl⟩
 obtain⟨ROW,OV⟩:∃ROW:Array Value,ROW=(cs.take (i*K)).toArray++Builtin.zeroCells z0.cells (n+m-i)++Builtin.zeroCells z0.cells (G-(n+m)):=⟨_,rfl⟩
 have XP:n+m<=G:=by rw[hG];exact grownCap_ge w _ _ _
 have Ud:G<=maxLen:=by rw[hG];exact grownCap_le_maxLen w (n+m) cap el (by unfold maxLen;omega)
 rw[<-hG]at Q1;rw[<-OV]at Q1;have e1:(i+m)*K=i*K+m*K:=Nat.add_mul ..;have e2:(n+m)*K=n*K+m*K:=Nat.add_mul ..;have e3:(n+m-i)*K=n*K+m*K-i*K:=by rw[Nat.sub_mul,e2]
 have e4:(n-i)*K=n*K-i*K:=Nat.sub_mul ..;have e5:(G-(n+m))*K=G*K-(n*K+m*K):=by rw[Nat.sub_mul,e2]
 have e6:n*K+m*K<=G*K:=by rw[<-e2];exact BF _ XP
 have hRs:ROW.size=G*K:=by rw[OV];simp only[Array.size_append,List.size_toArray,Au,size_zeroCells,CY];omega
 obtain⟨ROW2,Ui⟩:∃R:Array Value,R=(ROW.toList.take (i*K)++vs++ROW.toList.drop (i*K+vs.length)).toArray:=⟨_,rfl⟩
 obtain⟨ROW3,dP⟩:∃R:Array Value,R=(ROW2.toList.take ((i+m)*K)++cs.drop (i*K)++ROW2.toList.drop ((i+m)*K+(cs.drop (i*K)).length)).toArray:=⟨_,rfl⟩
 have dO:ROW2.size=G*K:=by rw[Ui];simp only[List.size_toArray,AF,Au,Bx,BL];omega
 have dQ:ROW3.size=G*K:=by rw[dP];simp only[List.size_toArray,AF,Au,Bx,BL];omega
 obtain⟨N,hN⟩:∃N,N=w.heap.size:=⟨_,rfl⟩
 have hA:(w.alloc (.cells ROW el)).heap[N]?=some (.cells ROW el (0,0)):=by rw[hN];exact heap_alloc_new w _
 have hO:∀k,k<N->(w.alloc (.cells ROW el)).heap[k]?=w.heap[k]?:=λk hk=>Below.heap_alloc w _ k (by omega);have hB:((w.alloc (.cells ROW el)).setRow N ROW2).heap[N]?=some (.cells ROW2 el (0,0)):=setRow_heap _ _ _ _ _ _ hA;have rX:∀k,k<N->((w.alloc (.cells ROW el)).setRow N ROW2).heap[k]?=w.heap[k]?:=λk hk=>by rw[setRow_other _ _ _ _ (by omega)];exact hO k hk
 rw[<-hN]at Q1 ⊢;refine⟨G,ROW,ROW2,ROW3,XP,Ud,Q1,λW hW ty dc=> ?_,λW hW ty dc sc=> ?_,λW w1 w2 w3 hW=> ?_,rfl,rfl⟩
 ·have h:=Z5 (P:=P) W st st ty el K N (i*K) (n+m-i) dc ⟨vb,0,none⟩ m vc ROW el vs hI.u Bv (by rw[hW];exact hA) (by rw[EK,show Nat.min m (n+m-i)=m from Nat.min_eq_left (by omega)])
   (λj v hj=>by rw[World.cell?_of_block (w:=w) (by rw[Addr.add_lit,hW];exact hO vb (by omega))];exact hv.cell 0 j v (by simpa using hj)) (by rw[hRs,EK];omega) G3
  rw[show Nat.min m (n+m-i)=m from Nat.min_eq_left (by omega),<-Ui]at h;exact h
 ·have h:=Z5 (P:=P) W st st ty el K N ((i+m)*K) (n+m-(i+m)) dc ⟨g,i*K,none⟩ (n-i) sc ROW2 el (cs.drop (i*K)) hI.u Bv (by rw[hW];exact hB) (by rw[Bx,AB,show Nat.min (n-i) (n+m-(i+m))=n-i from Nat.min_eq_left (by omega)];omega)
   (λj v hj=>by rw[World.cell?_of_block (w:=w) (by rw[Addr.add_lit,hW];exact rX g (by omega))];exact AX.cell (i*K) j v hj) (by rw[dO,Bx,AB];omega) (λv hv=>G2 v (BM hv))
  rw[show Nat.min (n-i) (n+m-(i+m))=n-i from Nat.min_eq_left (by omega),<-dP]at h;exact h
 ·refine⟨N,G,ROW3,rfl,⟨XP,Ud,by rw[hW];exact setRow_heap _ _ _ _ _ _ hB,dQ,?_⟩,⟨w1,w2,w3,by rw[hW];simp,λk hk _=>by rw[hW,setRow_other _ _ _ _ (by omega)];exact rX k (by omega)⟩, .inr (by omega)⟩;have h:=two ((Builtin.zeroCells z0.cells (n+m-i)).toList++(Builtin.zeroCells z0.cells (G-(n+m))).toList) cs vs (i*K) (m*K) (n*K) ROW.toList (by rw[OV];simp) AB fD EK (by simp only[AF,BL,size_zeroCells,CY];omega);rw[dP,Ui,Nat.add_mul n m,Nat.add_mul i m];exact h.symm
theorem zDS{P:Program}{el K st it ov:Nat}[hI:IQ P el K st it ov]{w:World}{n i g cap:Nat}{C:Array Value}{cs:List Value}{own:List Nat}{vb vc m:Nat}{VC:Array Value}{vs:List Value}(AX:Dj w el K g cap C n cs)(D2:g∈own)(Cm:i<n)(BW:n+m<=cap)(Q3:vb≠g)
  (hv:Dj w el K vb vc VC m vs) (hm:0<m) (G3:∀u∈vs,u.oneCell'=true) (G2:∀u∈cs,u.oneCell'=true):
  ∃C1 C2:Array Value,(∀lb cb,(callFunc ov #[.slice (some ⟨vb,0,none⟩) m vc, .slice (some ⟨g,(i+m)*K,none⟩) lb cb]).run P w= .ok (.value (.bool false)) w)/\
   (∀(W:World),W.heap=w.heap-> ∀ty dc sc,(Builtin.copy_ #[st,st] ty #[.slice (some ⟨g,(i+m)*K,none⟩) (n+m-(i+m)) dc, .slice (some ⟨g,i*K,none⟩) (n+m-i) sc]).run P W= .ok (goInt ((n-i:Nat):Int)) (W.setRow g C1))/\
   (∀(W:World),W.heap=(w.setRow g C1).heap-> ∀ty dc,(Builtin.copy_ #[st,st] ty #[.slice (some ⟨g,i*K,none⟩) (n+m-i) dc, .slice (some ⟨vb,0,none⟩) m vc]).run P W= .ok (goInt m) (W.setRow g C2))/\
   (∀W:World,W.os=w.os->W.tape=w.tape->W.output=w.output->W.heap=((w.setRow g C1).setRow g C2).heap->PC w W el K own (.slice (some ⟨g,0,none⟩) (n+m) cap) (n+m) (cs.take (i*K)++vs++cs.drop (i*K)))/\
   (w.drew).heap=w.heap/\(w.drew.setRow g C1).heap=(w.setRow g C1).heap:=by
 obtain⟨i0,z0,hi,hs,hz,CY,ES,hK⟩:=hI.i;obtain⟨fn,bt,f1,f2,f3,f4,f5⟩:=hI.o;have AB:=AX.len;have EK:=hv.len;have Ur:=AX;obtain⟨Mb,Gq,hg,J4,BI⟩:=Ur;have Kg:g<w.heap.size:=Dh hg;have Bv:(P.info? el).map (·.size)=some K:=by rw[hi];simp[hs]
 have Vf:=hv.2.2.1;have fD:i*K<=n*K:=BF _ (by omega);have e1:(i+m)*K=i*K+m*K:=Nat.add_mul ..;have e2:(n+m)*K=n*K+m*K:=Nat.add_mul ..;have e3:(n+m-i)*K=n*K+m*K-i*K:=by rw[Nat.sub_mul,e2]
 have e4:(n-i)*K=n*K-i*K:=Nat.sub_mul ..;have e6:n*K+m*K<=cap*K:=by rw[<-e2];exact BF _ BW
 have e7:0<cap*K:=Nat.mul_pos (by omega) hK;obtain⟨C1,IT⟩:∃R:Array Value,R=(C.toList.take ((i+m)*K)++cs.drop (i*K)++C.toList.drop ((i+m)*K+(cs.drop (i*K)).length)).toArray:=⟨_,rfl⟩
 obtain⟨C2,M3⟩:∃R:Array Value,R=(C1.toList.take (i*K)++vs++C1.toList.drop (i*K+vs.length)).toArray:=⟨_,rfl⟩
 have LS:C1.size=cap*K:=by rw[IT];simp only[List.size_toArray,AF,Au,Bx,BL];omega
 have LU:C2.size=cap*K:=by rw[M3];simp only[List.size_toArray,AF,Au,Bx,BL];omega
 have hB:(w.setRow g C1).heap[g]?=some (.cells C1 el (0,0)):=setRow_heap _ _ _ _ _ _ hg;have Ma:Nat.min (n+m-i) (n+m-(i+m))=n-i:=by rw[show Nat.min (n+m-i) (n+m-(i+m))=n+m-(i+m)from Nat.min_eq_right (by omega)];omega
 refine⟨C1,C2,λlb cb=> ?_,λW hW ty dc sc=> ?_,λW hW ty dc=> ?_,λW w1 w2 w3 hW=> ?_,rfl,rfl⟩
 ·rw[run_callFunc_extern f1 f2 f3 f4 f5,Lib.run_overlaps_apart w st bt el hI.u K (λw=>by simp[Go.sizeOf,typeInfo,hi,hs]) ⟨vb,0,none⟩ ⟨g,(i+m)*K,none⟩ m vc lb cb Q3 el el VC.size C.size (by simp[World.shape?,Vf]) (by simp[World.shape?,hg]) (by omega) (by simp[World.frozen?,Vf]) (by simp[World.frozen?,Vf])];rfl
 ·have h:=Z5 (P:=P) W st st ty el K g ((i+m)*K) (n+m-(i+m)) dc ⟨g,i*K,none⟩ (n+m-i) sc C el (cs.drop (i*K)) hI.u Bv (by rw[hW];exact hg) (by rw[Bx,AB,Ma];omega)
   (λj v hj=>by rw[World.cell?_of_block (w:=w) (by rw[hW])];exact AX.cell (i*K) j v hj) (by rw[J4,Bx,AB];omega) (λv hv=>G2 v (BM hv))
  rw[Ma,<-IT]at h;exact h
 ·have h:=Z5 (P:=P) W st st ty el K g (i*K) (n+m-i) dc ⟨vb,0,none⟩ m vc C1 el vs hI.u Bv (by rw[hW];exact hB) (by rw[EK,show Nat.min m (n+m-i)=m from Nat.min_eq_left (by omega)])
   (λj v hj=>by rw[World.cell?_of_block (w:=w) (by rw[Addr.add_lit,hW];exact setRow_other _ _ _ _ (by simpa using Q3))];exact hv.cell 0 j v (by simpa using hj)) (by rw[LS,EK];omega) G3
  rw[show Nat.min m (n+m-i)=m from Nat.min_eq_left (by omega),<-M3]at h;exact h
 ·have no:∀k,¬k∈own->k≠g:=λk hn e=>hn (e▸D2);refine⟨g,cap,C2,rfl,⟨BW,Gq,by rw[hW];exact setRow_heap _ _ _ _ _ _ hB,LU,?_⟩,⟨w1,w2,w3,by rw[hW];simp,λk hk hn=>by rw[hW,setRow_other _ _ _ _ (by first|exact no k hn|exact(no k hn).symm),setRow_other _ _ _ _ (by first|exact no k hn|exact(no k hn).symm)]⟩, .inl D2⟩;have h:=zG2 C.toList cs vs (i*K) (m*K) (n*K) BI fD EK (by rw[BL,J4];omega);rw[M3,IT,Nat.add_mul n m,Nat.add_mul i m];exact h.symm
instance inf_Held:IQ Tryz.prog 108 5 48 3 285:=⟨Tryz.underlying48,Tryz.underlying3,rL (by kernel_rfl),_,4,Tryz.func285,by kernel_rfl,by kernel_rfl,by kernel_rfl,by kernel_rfl⟩
instance inf_Told:IQ Tryz.prog 53 3 49 3 307:=⟨Tryz.underlying49,Tryz.underlying3,rL (by kernel_rfl),_,4,Tryz.func307,by kernel_rfl,by kernel_rfl,by kernel_rfl,by kernel_rfl⟩
instance inf_Cell:IQ Tryz.prog 146 2 47 3 319:=⟨Tryz.underlying47,Tryz.underlying3,rL (by kernel_rfl),_,4,Tryz.func319,by kernel_rfl,by kernel_rfl,by kernel_rfl,by kernel_rfl⟩
set_option maxHeartbeats 16000000 in
theorem qN:Ys Tryz.prog 252 108 5/\Ys Tryz.prog 282 53 3/\Ys Tryz.prog 306 146 2:=by
 refine⟨?_,?_,?_⟩<;>(
  intro w v n cs own vb vc m VC vs AB AX hv hm hb G3;obtain⟨v',w1,hr,fin⟩:=zCE (P:=Tryz.prog) AB AX hv hm hb G3;have Ya: ¬((m:Int)=0):=by omega
  clear hv G3 AB;rcases AX with⟨rfl,_|⟨qb,qo,qs⟩,rfl⟩|⟨g,cap,C,rfl,_,_⟩<;>(
   first|go_enter Tryz.func252,Tryz.ntmps252|go_enter Tryz.func282,Tryz.ntmps282|go_enter Tryz.func306,Tryz.ntmps306
   go_wp2_with (at_builtin;refine Lib.wpList_append_run _ rfl _ _ _ _ rfl _ _ rfl rfl _ _ hr ?_)
   all_goals (go_ret;exact⟨_,rfl,fin⟩)))
set_option maxHeartbeats 16000000 in
theorem qD:Yv Tryz.prog 252 108 5/\Yv Tryz.prog 282 53 3/\Yv Tryz.prog 306 146 2:=by
 refine⟨?_,?_,?_⟩<;>(
  intro w n i g cap C cs own vb vc m VC vs AX Cm BW hv hm hb G3 G2;obtain⟨G,ROW,ROW2,ROW3,XP,hG64,Q1,eI,Uw,fin,rR,dI⟩:=zDI (P:=Tryz.prog) own AX Cm BW hv hm hb G3 G2;obtain⟨Mb,Gq,hg,J4, -⟩:=AX;have Kg:=Dh hg;have Ya: ¬((m:Int)=0):=by omega
  have NG: ¬((i:Int)=(n:Int)):=by omega
  have hz3:(cap:Int)<(n:Int)+(m:Int):=by omega
  have hGi: ¬(G=i):=by omega
  have hGim: ¬(G=i+m):=by omega
  have Ut: ¬(cap=i):=by omega
  have Q4:IntKind.i64.wrap ((i:Int)+(m:Int))=(i:Int)+(m:Int):=by rw[IntKind.wrap_i64];omega
  have GA:(0:Int)<=(i:Int)+(m:Int):=by omega
  have fF:i<=n:=by omega
  have Q2:((i:Int)+(m:Int)).toNat=i+m:=by omega
  have OZ:(i:Int)<=(n:Int):=by omega
  first|go_enter Tryz.func252,Tryz.ntmps252|go_enter Tryz.func282,Tryz.ntmps282|go_enter Tryz.func306,Tryz.ntmps306
  go_wp2_with (first
   |(at_builtin;refine Lib.wpList_append_run _ rfl _ _ _ _ rfl _ _ rfl rfl _ _ (Q1 _) ?_)
   |(at_builtin;refine mS _ rfl _ _ _ _ rfl _ _ rfl rfl (eI _ rR _ _) ?_)
   |(at_builtin;refine mS _ rfl _ _ _ _ rfl _ _ rfl rfl (Uw _ rfl _ _ _) ?_))
  go_region_law (refine zsP rfl _ _ _ _ rfl _ _ (by simp[Act.eval,Act.put]) (by simp[Act.eval,Act.put]) (Uw _ dI _ (G-(i+m)) (cap-i)) ?_)
  go_wp2
  go_ret
  exact⟨_,rfl,fin _ rfl rfl rfl rfl⟩)
set_option maxHeartbeats 16000000 in
theorem pH:Yt Tryz.prog 252 108 5/\Yt Tryz.prog 282 53 3/\Yt Tryz.prog 306 146 2:=by
 refine⟨?_,?_,?_⟩<;>(
  intro w n i g cap C cs own vb vc m VC vs AX D2 Cm BW Q3 hv hm G3 G2;obtain⟨C1,C2,gE,eG,eH,fin,dI,hF2⟩:=zDS (P:=Tryz.prog) AX D2 Cm BW Q3 hv hm G3 G2;obtain⟨Mb,Uo,hg,J4, -⟩:=AX;have Uo:cap<=9223372036854775807:=Uo;have Kg:=Dh hg;have Ya: ¬((m:Int)=0):=by omega
  have NG: ¬((i:Int)=(n:Int)):=by omega
  have hz3: ¬((cap:Int)<(n:Int)+(m:Int)):=by omega
  have Ut: ¬(cap=i):=by omega
  have hcim: ¬(cap=i+m):=by omega
  have Q4:IntKind.i64.wrap ((i:Int)+(m:Int))=(i:Int)+(m:Int):=by rw[IntKind.wrap_i64];omega
  have GA:(0:Int)<=(i:Int)+(m:Int):=by omega
  have fF:i<=n:=by omega
  have Q2:((i:Int)+(m:Int)).toNat=i+m:=by omega
  have OZ:(i:Int)<=(n:Int):=by omega
  have hb4:(i:Int)<=(n:Int)+(m:Int):=by omega
  clear hg hv
  first|go_enter Tryz.func252,Tryz.ntmps252|go_enter Tryz.func282,Tryz.ntmps282|go_enter Tryz.func306,Tryz.ntmps306
  go_wp2_with (simp only[gE])
  go_region_law (refine zsP rfl _ _ _ _ rfl _ _ (by simp[Act.eval,Act.put]) (by simp[Act.eval,Act.put]) (eG _ dI _ (cap-(i+m)) (cap-i)) ?_)
  go_wp2_with (at_builtin;refine mS _ rfl _ _ _ _ rfl _ _ rfl rfl (eH _ hF2 _ _) ?_)
  go_ret
  exact⟨_,rfl,fin _ rfl rfl rfl rfl⟩)
theorem zC8:OL Tryz.prog 252 108 5:=pY qN.1 qD.1 pH.1
theorem zC7:OL Tryz.prog 282 53 3:=pY qN.2.1 qD.2.1 pH.2.1
theorem zCG:OL Tryz.prog 306 146 2:=pY qN.2.2 qD.2.2 pH.2.2
theorem zCj:∃i z,Tryz.prog.info? 108=some i/\i.size=5/\i.zero=some z/\z.cells.size=5/\ ∀u∈z.cells,u.oneCell'=true:=by
 have h:(match Tryz.prog.info? 108 with|some i=>(match i.zero with|some z=>i.size==5&&z.cells.size==5&&z.cells.all (λu=>u.oneCell')|none=>false)|none=>false)=true:=by kernel_rfl
 split at h
 ·rename_i i hi;split at h
  ·rename_i z hz;simp only[Ab,AO,Array.all_eq_true_iff_forall_mem]at h;exact⟨i,z,hi,h.1.1,hz,h.1.2,h.2⟩
  ·cases h
 ·cases h
set_option maxHeartbeats 4000000 in
theorem zDb:iS Tryz.prog 281 108 5:=by
 intro w n i j g cap C cs AX Ew hjn h1;obtain⟨i0,z0,hi,hs,hz,CY,tG⟩:=zCj;have hv:∀w,(zeroValue 108).run Tryz.prog w= .ok z0 w:=λw=>by simp[zeroValue,typeInfo,hi,hz]
 obtain⟨d,rfl⟩:∃d,j=i+d:=⟨j-i,by omega⟩
 obtain⟨m,rfl⟩:∃m,n=i+d+m:=⟨n-(i+d),by omega⟩
 have AB:=AX.len;have Ur:=AX;obtain⟨Mb,Gq,hg,J4,BI⟩:=Ur;have hcm':cap<=9223372036854775807:=Gq;have hmul:=BF 5 Mb;obtain⟨news,Dk⟩:∃s,s=cs.drop ((i+d)*5):=⟨_,rfl⟩
 have Kq:news.length=m*5:=by rw[Dk,Bx,AB];omega
 have rO:∀u∈news,u.oneCell'=true:=λu hu=>by rw[Dk]at hu;exact h1 u (BM hu)
 obtain⟨C1,IT⟩:∃R:Array Value,R=(C.toList.take (i*5)++news++C.toList.drop (i*5+news.length)).toArray:=⟨_,rfl⟩
 have LS:C1.size=cap*5:=by rw[IT];simp only[List.size_toArray,AF,Au,Bx,BL];omega
 obtain⟨A,hA,Dr⟩:∃A:Addr,(if cap=i+d then some (⟨g,0,none⟩:Addr)else some ⟨g,(i+d)*5,none⟩)=some A/\ ∀q u,news[q]?=some u->w.cell? (A.add q)=some u:=by
  by_cases h:cap=i+d
  ·refine⟨⟨g,0,none⟩,by simp[h],λq u hu=> ?_⟩;have Ct:m=0:=by omega
   have h0:news.length=0:=by rw[Kq,Ct,Nat.zero_mul]
   rw[List.length_eq_zero_iff.1 h0]at hu;simp at hu
  ·refine⟨⟨g,(i+d)*5,none⟩,by simp[h],λq u hu=> ?_⟩;exact AX.cell ((i+d)*5) q u (by rw[<-Dk];exact hu)
 have Jy:∀(W:World),W.heap=w.heap-> ∀ty,(Builtin.append_ #[48,48] ty #[.slice (some ⟨g,0,none⟩) i cap, .slice (some A) m (cap-(i+d))]).run Tryz.prog W= .ok (.slice (some ⟨g,0,none⟩) (i+m) cap) (W.setRow g C1):=λW hW ty=>by rw[IT];exact zqW W 48 ty 108 i0 Tryz.underlying48 hi 5 hs g i cap A m (cap-(i+d)) C news (by rw[hW];exact hg) Kq (λq u hu=>by rw[World.cell?_of_block (w:=w) (by rw[hW])];exact Dr q u hu) rO (by omega) (by rw[J4,Kq];omega)
 obtain⟨W1,Uk⟩:∃W1,W1=w.drew.setRow g C1:=⟨_,rfl⟩
 have OW:W1.heap[g]?=some (.cells C1 108 (0,0)):=by rw[Uk];exact setRow_heap _ _ _ _ _ _ hg
 obtain⟨C2,M3⟩:∃R:Array Value,R=(C1.toList.take ((i+m)*5)++(Builtin.zeroCells z0.cells d).toList++C1.toList.drop ((i+m)*5+(Builtin.zeroCells z0.cells d).toList.length)).toArray:=⟨_,rfl⟩
 have LU:C2.size=cap*5:=by rw[M3];simp only[List.size_toArray,AF,Au,Bx,BL,size_zeroCells,CY];omega
 have sF:∀ty N c,N=d->(Builtin.clear_ #[48] ty #[.slice (some ⟨g,(i+m)*5,none⟩) N c]).run Tryz.prog W1= .ok (.tuple #[]) (W1.setRow g C2):=λty N c hN=>by subst hN;rw[M3];exact zzi W1 48 108 ty z0 Tryz.underlying48 hv tG g ((i+m)*5) N c C1 (by omega) OW (by rw[CY,LS];omega)
 have fin:∀W:World,W.os=w.os->W.tape=w.tape->W.output=w.output->W.heap=(W1.setRow g C2).heap-> ∃C',Dj W 108 5 g cap C' (i+m) (cs.take (i*5)++cs.drop ((i+d)*5))/\Mod [g] w W:=λW w1 w2 w3 hW=>by
  refine⟨C2,⟨by omega,Gq,by rw[hW];exact setRow_heap _ _ _ _ _ _ OW,LU,?_⟩,w1,w2,w3,by rw[hW,Uk];simp,λk hk hn=>by rw[hW,setRow_other _ _ _ _ (by simpa using hn),Uk,setRow_other _ _ _ _ (by simpa using hn)];rfl⟩;have l1:(C.toList.take (i*5)).length=i*5:=by rw[Au,BL,J4];omega
  have e1:C1.toList.take ((i+m)*5)=C.toList.take (i*5)++news:=by
   rw[IT];show(C.toList.take (i*5)++news++_).take _=_;have l2:(C.toList.take (i*5)++news).length=(i+m)*5:=by rw[AF,l1,Kq];omega
   rw[<-l2];exact List.take_left
  rw[M3];show _=(C1.toList.take ((i+m)*5)++_++_).take _;rw[e1,List.append_assoc,<-Dk,BI,List.take_take];have l2:(C.toList.take (i*5)++news).length=(i+m)*5:=by rw[AF,l1,Kq];omega
  rw[<-l2,List.take_left,Nat.min_eq_left (by omega)]
 have hlow: ¬cap=i+m:=by omega
 have HW:=Lib.hid Uk;have XX:0<d:=by omega
 have A9: ¬(i:Int)=(i:Int)+(d:Int):=by omega
 have h2:i<=cap:=by omega
 have h3:i+d<=cap:=by omega
 have mixed:Tryz.prog.follows Departure.mixedOrders=true:=by kernel_rfl
 have GA:(0:Int)<=(i:Int)+(d:Int):=by omega
 have GB:(i:Int)+(d:Int)<=(i:Int)+(d:Int)+(m:Int):=by omega
 have Q2:((i:Int)+(d:Int)).toNat=i+d:=by omega
 have hmn:i+d+m-(i+d)=m:=by omega
 have hcr2:=λty=>sF ty (i+d+m-(i+m)) (cap-(i+m)) (by omega);clear sF;clear AX BI J4 hg Dr Dk Kq rO IT LS M3 LU OW Uk CY tG hz hi hs hv hmul AB h1
 go_enter Tryz.func281,Tryz.ntmps281
 go_wp2_with fail
 go_region_law_o (refine zqJ rfl _ _ 48 rfl (.slice (some ⟨g,0,none⟩) i cap) (.slice (some A) m (cap-(i+d))) (by simp[Act.eval,Act.put]) (by simp[Act.eval,Act.put]) (Jy _ rfl) ?_;rw[<-HW.out])
 go_wp2
 go_ret
 obtain⟨C',f1,f2⟩:=fin _ (by rw[HW.out];rfl) (by rw[HW.out];rfl) (by rw[HW.out];rfl) rfl;exact⟨C',by simp;omega,by rw[show i+d+m-(i+d-i)=i+m by omega];exact f1,f2⟩
end Go.Proofs.YtalagilebkaegaaGreat
end
section
namespace Go.Proofs.YtalagilebkaegaaGreat
open Go.RowKit Go.Sort
set_option maxRecDepth 100000
def wH(P:Program)(sg:B4)(f:Nat)(t el K:Nat):Bool:=
 match P.funcs[f]?,sg f with
 |some fn,some s=>(match s.cf,s.res,s.ft,s.lo with
  | [.va [true]],[true],[],[]=>true
  |_,_,_,_=>false)&&fn.body.isSome&& !(fn.name== "runtime.NumGoroutine")&&fn.params.toList==[t]&&(Dz fn s)==[t]&&fn.nfree==0&& !Ap P t&&Bl P t==[t]&&C3 P t==some el&&Cg P el&&P.cellsOf el==K&&Gj P t [true]&&fn.params.size==1
 |_,_=>false
variable {α:Type} [Inhabited α] {enc:α->Value}
theorem zX{w:World}{b q:Nat}{d:Array α}{C:Array Value}{el:TypeId}(h:w.heap[b]?=some (.cells C el (0,0))):
  (putRow enc (Sort.ahead w q) b 0 d).heap[b]?=some (.cells (Go.Sort.putCells enc 0 d C) el (0,0)):=by
 show(w.heap.modify b (onCells (Go.Sort.putCells enc 0 d)))[b]?=_;rw[Array.getElem?_modify,if_pos rfl,h];rfl
theorem ztq{w:World}{b q:Nat}{d:Array α}:Mod [b] w (putRow enc (Sort.ahead w q) b 0 d):=by
 refine⟨rfl,rfl,rfl,?_,λj hj hn=> ?_⟩
 ·show w.heap.size<=(w.heap.modify b (onCells (Go.Sort.putCells enc 0 d))).size;simp
 ·show(w.heap.modify b (onCells (Go.Sort.putCells enc 0 d)))[j]?=_;rw[Array.getElem?_modify,if_neg (by simpa[eq_comm]using hn)]
theorem zrw(C:Array Value)(r z:List α)(h:r.length+z.length<=C.size):(Go.Sort.putCells enc 0 (r++z).toArray C).toList.take r.length=r.map enc:=by
 apply List.ext_getElem?;intro j;by_cases hj:j<r.length
 ·have hc:j<C.size:=by omega
  rw[List.getElem?_take,if_pos hj,List.getElem?_map,Bt hj,Option.map_some,Array.getElem?_toList];have:j<(Go.Sort.putCells enc 0 (r++z).toArray C).size:=by simp[Go.Sort.putCells];exact hc
  rw[Array.getElem?_eq_getElem this];simp only[Go.Sort.putCells,Array.getElem_mapIdx,Nat.zero_le,true_and,Nat.zero_add,Nat.sub_zero];rw[if_pos (by simp;omega)];have h2:j<(r++z).toArray.size:=by simp;omega
  rw[getElem!_pos _ j h2];simp[hj]
 ·rw[List.getElem?_take,if_neg hj,List.getElem?_eq_none (by simpa using hj)]
theorem vG(b:ByteArray):encStr b.data.toList= .string b:=by show Value.string ⟨b.data.toList.toArray⟩= .string b;cases b;simp
theorem rC{w:World}:∀(r:List (List UInt8)),(∀s∈r,s.length<=9223372036854775807)->Rd w (r.map encStr) (Aq (r.map DZ)) []
 | [],_=>by simpa[Aq]using Rd.nil
 |s::r,h=>by
  have e:Aq ((s::r).map DZ)= .str s::Aq (r.map DZ):=by simp[Aq,DZ,AV.cells]
  rw[e,List.map_cons];have:=Rd.str (w:=w) (s:=⟨s.toArray⟩) (by show s.toArray.size<=_;simpa using h s (by simp)) (rC r λx hx=>h x (by simp[hx]));simpa using this
theorem n8{w:World}:∀{cs:List Value} {xs:List (List UInt8)} {f:List Nat},Rd w cs (Aq (xs.map DZ)) f-> ∀s∈xs,s.length<=9223372036854775807
 |cs,[],f,_=>by simp
 |cs,x::xs,f,h=>by
  have e:Aq ((x::xs).map DZ)= .str x::Aq (xs.map DZ):=by simp[Aq,DZ,AV.cells]
  rw[e]at h;cases h with
  |str a h=>
   intro s hs;rcases Ae.1 hs with rfl|hs
   ·simpa using a
   ·exact n8 h s hs
theorem zW[DecidableEq α](zs:List α):∀s∈Lib.compact zs,s∈zs:=by
 intro s hs;unfold Lib.compact Lib.compactUpTo at hs;obtain⟨j,hj,rfl⟩:=List.mem_map.1 hs;have AD:j<zs.length:=by simpa using(List.mem_filter.1 hj).1
 rw[getElem!_pos _ j (by simpa using AD)];simp
theorem mU{w:World}:∀{cs:List Value} {xs:List (List UInt8)} {f:List Nat},Rd w cs (Aq (xs.map DZ)) f-> ∃bs:List ByteArray,cs=bs.map Value.string/\bs.map (·.data.toList)=xs
 |cs,[],f,h=>by obtain⟨rfl,_⟩:=Om (by simpa[Aq]using h);exact⟨[],rfl,rfl⟩
 |cs,x::xs,f,h=>by
  have h':Rd w cs (.str x::Aq (xs.map DZ)) f:=by simpa[Aq]using h
  obtain⟨b,us,rfl,rfl,_,h2⟩:=iQ h';obtain⟨bs,rfl,rfl⟩:=mU h2;exact⟨b::bs,rfl,rfl⟩
theorem zsJ[DecidableEq α]{av:α->AV}{dz:α}{Q:α->Prop}(Dn:∀{w:World} {cs:List Value} {xs:List α} {f:List Nat},Rd w cs (Aq (xs.map av)) f->cs=xs.map enc/\ ∀s∈xs,Q s)
  (hwr:∀{w:World} (r:List α),(∀s∈r,Q s)->Rd w (r.map enc) (Aq (r.map av)) []) (ha:∀x,(av x).cells.length=1) (ho:∀x,(enc x).oneCell'=true) {f t el:Nat} (hk:wH Tryz.prog B9 f t el 1=true) (Ca:∀r,H7 Tryz.prog B9 f r=true)
  (hC:∀(blk cap:Nat) (zs:List α) (w:World),Holds enc w blk 0 zs.toArray->zs.length<=9223372036854775807->zs.length<=cap->
   Calls Tryz.prog f #[.slice (some ⟨blk,0,none⟩) zs.length cap] w λe w'=>e= .returned (.slice (some ⟨blk,0,none⟩) (Lib.compact zs).length cap)/\ ∃q,w'=putRow enc (Sort.ahead w q) blk 0 (Lib.compact zs++List.replicate (zs.length-(Lib.compact zs).length) dz).toArray)
  (h0:∀a cap w,Calls Tryz.prog f #[.slice a 0 cap] w λe w'=>e= .returned (.slice a 0 cap)/\w'=w)
  (xs:List α):Cr Tryz.prog B9 f [.sl (xs.map av)] (.sl ((Lib.compact xs).map av)):=by
 unfold wH at hk;split at hk
 ·rename_i fn s hf hs;simp only[Ab,Be,AO]at hk;obtain⟨⟨⟨⟨⟨⟨⟨⟨⟨⟨⟨⟨g1,g2⟩,g3⟩,g4⟩,g5⟩,g6⟩,g7⟩,g8⟩,g9⟩,g10⟩,g11⟩,g12⟩,g13⟩:=hk;obtain⟨hm,hr,CB,BZ⟩:s.cf=[.va [true]]/\s.res=[true]/\s.ft=[]/\s.lo=[]:=by
   split at g1
   ·rename_i a b c d;exact⟨a,b,c,d⟩
   ·cases g1
  have AB:=Lib.compact_length_le xs;unfold Cr;rw[if_pos (K4 f s hs)];refine⟨s,hs,fn,hf,g2,g3,by have:=Ca ((Lib.compact xs).map av);unfold H7 at this;rw[hf,hs]at this;exact this,by simp[g6,g13],by simp[CB],λw vs rf lf Bh Aj hd _ Cb Ed=> ?_⟩;rw[g4,CB,AE,hm,BZ]at Aj;cases Aj with
  |lent h _ _ _=>cases h
  | @cons _ _ _ _ v1 vs1 _ _ f1 k1 rf1 lf1 BR a1 Aj=>
   cases Aj;obtain⟨rfl,r1⟩:=bA g7 g8 g9 g10 a1;obtain⟨xs',cs,e1,p0,p1,p2,p3,p4,p5⟩:=r1.j9;cases e1;rw[g11]at p0 p1 p2 p5;have fin:∀{w':World} {v':Value} {top:List Nat},Mod k1 w w'->De w' el 1 v' (.sl ((Lib.compact xs).map av)) top []->top.Nodup->(∀b∈top,b∈k1/\b<w'.heap.size)->jO Tryz.prog fn s w [v1] ([]++ []) (k1++ []) (.sl ((Lib.compact xs).map av)) v' w':=by
    intro w' v' top Bp Bq EI Cp;refine⟨⟨_,[],[],top,[],[],rfl,?_,?_,by simpa using EI,?_,by simp⟩,Bp.weaken λb hb=> .inl (by simp[hb])⟩
    ·rw[g5];show Ea Tryz.prog w' t s.res _ _ [] top;unfold Ea;rw[hr,if_pos g12];refine⟨[v'],[.sl ((Lib.compact xs).map av)],by rw[g7];simp,?_⟩;rw[g8];have:=CA.own (P:=Tryz.prog) (t:=t) (ts:=[]) (fl:=[true]) (us:=[]) (ys:=[]) (rf:=[]) (hs:=[]) rfl g9 (.inl ⟨g10,rfl⟩) (by rw[g11];exact Bq) .nil;simpa using this
    ·rw[g4,CB,AE,hm];exact .va rfl .nil
    ·intro b hb;simp only[AE]at hb;exact⟨.inl (by simpa using(Cp b hb).1),(Cp b hb).2⟩
   rcases p5 with⟨EG,rfl,q,rfl⟩|⟨g,cap,C,rfl,⟨z1,z2,z3,z4,z5⟩,rfl⟩
   ·have Cu:xs=[]:=by simpa using EG
    subst Cu;refine(h0 q 0 w).mono ?_;rintro e w' ⟨rfl,rfl⟩;have:Lib.compact ([]:List α)=[]:=rfl;exact⟨_,rfl,fin (Mod.refl _ _) ⟨[],by rw[this];rfl,by simp,by omega, .inl ⟨rfl,⟨q,rfl⟩,rfl,rfl⟩⟩ (by simp) (by simp)⟩
   ·rw[List.length_map]at z1 z5;have QS:=Dh z3;have B6:∀o,w.cell? ⟨g,o,none⟩=C[o]?:=Tx z3;have BI:cs=xs.map enc:=(Dn p3).1;have hH:Holds enc w g 0 xs.toArray:=by
     intro j hj;have Pc:j<xs.length:=by simpa using hj
     refine⟨?_,aC z3⟩;rw[B6,Nat.zero_add];have e1:C[j]?=cs[j]?:=by rw[z5,List.getElem?_take,if_pos (by omega)];simp
     rw[e1,BI,List.getElem?_map,Bt Pc,getElem!_pos _ j hj];simp
    have hc:=hC g cap xs w hH (by unfold maxLen at z2;omega) z1;rw[List.length_map]at fin ⊢;refine hc.mono ?_;rintro e w' ⟨rfl,q,rfl⟩;have E5:=zX (enc:=enc) (q:=q) (d:=(Lib.compact xs++List.replicate (xs.length-(Lib.compact xs).length) dz).toArray) z3;refine⟨_,rfl,fin (top:=[g]) ztq ?_ (by simp) (λb hb=>by rw[List.mem_singleton]at hb;subst hb;exact⟨by simp,Dh E5⟩)⟩;have B8:=zrw (enc:=enc) C (Lib.compact xs) (List.replicate (xs.length-(Lib.compact xs).length) dz) (by rw[List.length_replicate,z4];omega);refine⟨_,rfl,λy hy=> ?_,by omega, .inr ⟨g,cap,_,by simp,by rw[List.length_map];omega,z2,E5,by simp[Go.Sort.putCells,z4],rfl,?_,?_⟩⟩
    ·obtain⟨x,_,rfl⟩:=List.mem_map.1 hy;exact ha x
    ·rw[List.length_map,Nat.mul_one,B8];intro u hu;obtain⟨x,_,rfl⟩:=List.mem_map.1 hu;exact ho x
    ·rw[List.length_map,Nat.mul_one,B8];exact hwr _ λs hs=>(Dn p3).2 s (zW xs s hs)
 ·cases hk
noncomputable def Rl(xs:List (List UInt8)):Option (List (List UInt8)):=some (Lib.compact xs)
theorem zhV(a0 r:List (List UInt8))(h:Rl a0=some r):Cr Tryz.prog B9 229 [.sl (a0.map DZ)] (.sl (r.map DZ)):=by cases h;exact zsJ (enc:=encStr) (av:=DZ) (dz:=[]) (λh=>by obtain⟨bs,b1,b2⟩:=mU h;exact⟨by rw[b1,<-b2,List.map_map];exact List.map_congr_left λb _=>(vG b).symm,n8 h⟩) (λr h=>rC r h) (λ_=>rfl) (λ_=>rfl) (t:=24) (el:=9) (by kernel_rfl) (λ_=>by kernel_rfl) (λblk cap zs w hH h1 h2=>Tryz.slices_Compact_string blk 0 cap zs w hH h1 h2) (λa cap w=>Tryz.slices_Compact_string_empty a cap w) a0
end Go.Proofs.YtalagilebkaegaaGreat
end
section
namespace Go.Proofs.YtalagilebkaegaaGreat
open Go.RowKit Go.Sort
set_option maxRecDepth 100000
def wN(P:Program)(sg:B4)(f:Nat)(t el K:Nat):Bool:=
 match P.funcs[f]?,sg f with
 |some fn,some s=>(match s.cf,s.res,s.ft,s.lo with
  | [.mu [true]],[],[],[]=>true
  |_,_,_,_=>false)&&fn.body.isSome&& !(fn.name== "runtime.NumGoroutine")&&fn.params.toList==[t]&&(Dz fn s)==[]&&fn.nfree==0&& !Ap P t&&Bl P t==[t]&&C3 P t==some el&&Cg P el&&P.cellsOf el==K&&fn.params.size==1
 |_,_=>false
theorem zAw{w:World}{b q:Nat}{d:Array (List UInt8)}{C:Array Value}{el:TypeId}{os:Array Obj}(h:w.heap[b]?=some (.cells C el (0,0))):
  (grow (putRow encStr (Sort.ahead w q) b 0 d) os).heap[b]?=some (.cells (Go.Sort.putCells encStr 0 d C) el (0,0)):=by
 have h1:=zX (enc:=encStr) (q:=q) (d:=d) h;show((putRow encStr (Sort.ahead w q) b 0 d).heap++os)[b]?=_;rw[Array.getElem?_append_left (Dh h1),h1]
theorem zDw{w:World}{b q:Nat}{d:Array (List UInt8)}{os:Array Obj}:Mod [b] w (grow (putRow encStr (Sort.ahead w q) b 0 d) os):=by
 have h:=ztq (enc:=encStr) (w:=w) (b:=b) (q:=q) (d:=d);have hs:=h.size;refine⟨h.os,h.tape,h.output,?_,λj hj hn=> ?_⟩
 ·show w.heap.size<=((putRow encStr (Sort.ahead w q) b 0 d).heap++os).size;simp only[Array.size_append];omega
 ·show((putRow encStr (Sort.ahead w q) b 0 d).heap++os)[j]?=_;rw[Array.getElem?_append_left (by omega)];exact h.block j hj hn
def GY(xs:List (List UInt8)):List (List UInt8):=xs.mergeSort λx y=>decide (x<=y)
theorem ztu(xs:List (List UInt8)):(GY xs).Perm xs:=List.mergeSort_perm _ _
theorem zz9{f t el:Nat}(hk:wN Tryz.prog B9 f t el 1=true)
  (hC:∀(blk cap:Nat) (zs:List (List UInt8)) (w:World),Holds encStr w blk 0 zs.toArray->blk<w.heap.size->zs.length<4611686018427387904->
   Calls Tryz.prog f #[.slice (some ⟨blk,0,none⟩) zs.length cap] w λe w'=>e= .returned (.tuple #[])/\ ∃n os,w'=grow (putRow encStr (Sort.ahead w n) blk 0 (zs.mergeSort λx y=>decide (x<=y)).toArray) os)
  (h0:∀a cap w,Calls Tryz.prog f #[.slice a 0 cap] w λe w'=>e= .returned (.tuple #[])/\w'=w)
  (xs:List (List UInt8)) (hb:xs.length<4611686018427387904):Cr Tryz.prog B9 f [.sl (xs.map DZ)] (.tup [.tup [], .sl ((GY xs).map DZ)]):=by
 unfold wN at hk;split at hk
 ·rename_i fn s hf hs;simp only[Ab,Be,AO]at hk;obtain⟨⟨⟨⟨⟨⟨⟨⟨⟨⟨⟨g1,g2⟩,g3⟩,g4⟩,g5⟩,g6⟩,g7⟩,g8⟩,g9⟩,g10⟩,g11⟩,g13⟩:=hk;obtain⟨hm,hr,CB,BZ⟩:s.cf=[.mu [true]]/\s.res=[]/\s.ft=[]/\s.lo=[]:=by
   split at g1
   ·rename_i a b c d;exact⟨a,b,c,d⟩
   ·cases g1
  have hp:=ztu xs;have GQ:=hp.length_eq;unfold Cr;rw[if_pos (K4 f s hs)];refine⟨s,hs,fn,hf,g2,g3,?_,by simp[g6,g13],by simp[CB],λw vs rf lf Bh Aj hd _ Cb Ed=> ?_⟩
  ·unfold Oi Vz;rw[g4,g5,CB,AE,hm];simp[BQ,XA,IJ]
  rw[g4,CB,AE,hm,BZ]at Aj;cases Aj with
  |lent h _ _ _=>cases h
  | @cons _ _ _ _ v1 vs1 _ _ f1 k1 rf1 lf1 BR a1 Aj=>
   cases Aj;obtain⟨rfl,r1⟩:=bA g7 g8 g9 g10 a1;obtain⟨xs',cs,e1,p0,p1,p2,p3,p4,p5⟩:=r1.j9;cases e1;rw[g11]at p0 p1 p2 p5;have Jb:(xs.map DZ).length=xs.length:=by simp
   rcases p5 with⟨EG,rfl,q,rfl⟩|⟨g,cap,C,rfl,⟨z1,z2,z3,z4,z5⟩,rfl⟩
   ·have Cu:xs=[]:=by simpa using EG
    subst Cu;have hS0:GY []=[]:=by simpa using GQ
    refine(h0 q 0 w).mono ?_;rintro e w' ⟨rfl,rfl⟩;refine⟨_,rfl,⟨⟨.tup [],[.sl []],[],[],[],[],by simp[hS0],?_,?_,by simp,by simp,by simp⟩,Mod.refl _ _⟩⟩
    ·rw[g5];exact⟨[],[],rfl,rfl, .nil⟩
    ·rw[g4,CB,AE,hm];have GJ:FG Tryz.prog w' (Bl Tryz.prog t) [true] [.slice q 0 0] [.sl []] [] []:=by
      rw[g8];have:=FG.own (P:=Tryz.prog) (w:=w') (t:=t) (ts:=[]) (fl:=[true]) (us:=[]) (ys:=[]) rfl g9 (.inl ⟨g10,rfl⟩) (y:= .sl []) (u:= .slice q 0 0) (top:=[]) (by rw[g11];exact⟨[],rfl,by simp,p0, .inl ⟨rfl,⟨q,rfl⟩,rfl,rfl⟩⟩) .nil;simpa using this
     have:=D7.mu (P:=Tryz.prog) (w:=w') (t:=t) (ts:=[]) (ms:=[.mu [true]]) (own:=[true]) (v:= .slice q 0 0) (vs:=[]) (us:=[.slice q 0 0]) (ys:=[.sl []]) (y:= .sl []) (bs:=[]) (f:=[]) (o1:=[]) (o:=[]) rfl (by rw[g7];simp) GJ .nil;simpa using this
   ·rw[List.length_map]at z1 z5;obtain⟨bs,b1,b2⟩:=mU p3;have B6:∀o,w.cell? ⟨g,o,none⟩=C[o]?:=Tx z3;have BI:cs=xs.map encStr:=by
     rw[b1,<-b2,List.map_map];exact List.map_congr_left λb _=>(vG b).symm
    have hH:Holds encStr w g 0 xs.toArray:=by
     intro j hj;have Pc:j<xs.length:=by simpa using hj
     refine⟨?_,aC z3⟩;rw[B6,Nat.zero_add];have e1:C[j]?=cs[j]?:=by rw[z5,List.getElem?_take,if_pos (by omega)];simp
     rw[e1,BI,List.getElem?_map,Bt Pc,getElem!_pos _ j hj];simp
    have hc:=hC g cap xs w hH (Dh z3) hb;rw[List.length_map];refine hc.mono ?_;rintro e w' ⟨rfl,n,os,rfl⟩;have E5:=zAw (q:=n) (os:=os) (d:=(GY xs).toArray) z3;have Bp:=zDw (w:=w) (b:=g) (q:=n) (os:=os) (d:=(GY xs).toArray);have B8:=zrw (enc:=encStr) C (GY xs) [] (by rw[GQ,z4];simpa using z1);rw[AE,GQ]at B8;change Mod [g] w (grow (putRow encStr (Sort.ahead w n) g 0 (xs.mergeSort λx y=>decide (x<=y)).toArray) os)at Bp;change (grow (putRow encStr (Sort.ahead w n) g 0 (xs.mergeSort λx y=>decide (x<=y)).toArray) os).heap[g]?=_ at E5;generalize grow (putRow encStr (Sort.ahead w n) g 0 (xs.mergeSort λx y=>decide (x<=y)).toArray) os=w' at Bp E5;have Bq:De w' el 1 (.slice (some ⟨g,0,none⟩) xs.length cap) (.sl ((GY xs).map DZ)) [g] []:=by
     refine⟨_,rfl,λy hy=> ?_,by omega, .inr ⟨g,cap,_,by simp[GQ],by rw[List.length_map,GQ];omega,z2,E5,by simp[Go.Sort.putCells,z4],rfl,?_,?_⟩⟩
     ·obtain⟨x,_,rfl⟩:=List.mem_map.1 hy;rfl
     ·rw[List.length_map,GQ,Nat.mul_one,B8];intro u hu;obtain⟨x,_,rfl⟩:=List.mem_map.1 hu;rfl
     ·rw[List.length_map,GQ,Nat.mul_one,B8];exact rC _ λs hs=>n8 p3 s (hp.mem_iff.1 hs)
    refine⟨_,rfl,⟨⟨.tup [],[.sl ((GY xs).map DZ)],[],[],[],[g],by simp,?_,?_,by simp,?_,by simp⟩,Bp.weaken λb hb=> .inl (by simpa using hb)⟩⟩
    ·rw[g5];exact⟨[],[],rfl,rfl, .nil⟩
    ·rw[g4,CB,AE,hm];have GJ:FG Tryz.prog w' (Bl Tryz.prog t) [true] [.slice (some ⟨g,0,none⟩) xs.length cap] [.sl ((GY xs).map DZ)] [] [g]:=by
      rw[g8];have:=FG.own (P:=Tryz.prog) (w:=w') (t:=t) (ts:=[]) (fl:=[true]) (us:=[]) (ys:=[]) rfl g9 (.inl ⟨g10,rfl⟩) (y:= .sl ((GY xs).map DZ)) (u:= .slice (some ⟨g,0,none⟩) xs.length cap) (top:=[g]) (by rw[g11];exact Bq) .nil;simpa using this
     have:=D7.mu (P:=Tryz.prog) (w:=w') (t:=t) (ts:=[]) (ms:=[.mu [true]]) (own:=[true]) (v:= .slice (some ⟨g,0,none⟩) xs.length cap) (vs:=[]) (us:=[.slice (some ⟨g,0,none⟩) xs.length cap]) (ys:=[.sl ((GY xs).map DZ)]) (y:= .sl ((GY xs).map DZ)) (bs:=[]) (f:=[]) (o1:=[g]) (o:=[]) rfl (by rw[g7];simp) GJ .nil;simpa using this
    ·intro b hb;simp only[List.nil_append,List.mem_singleton]at hb;subst hb;exact⟨.inl (by simp),Dh E5⟩
 ·cases hk
noncomputable def Rk(xs:List (List UInt8)):Option (Unit × List (List UInt8)):=req (xs.length<4611686018427387904) (some ((),GY xs))
theorem ziU(a0:List (List UInt8))(r:Unit × List (List UInt8))(h:Rk a0=some r):Cr Tryz.prog B9 228 [.sl (a0.map DZ)] (.tup [.tup [], .sl (r.2.map DZ)]):=by obtain⟨hb,h⟩:=Gm h;cases h;exact zz9 (t:=24) (el:=9) (by kernel_rfl) (λblk cap zs w hH h1 h2=>Tryz.slices_Sort_string blk 0 cap zs w hH h1 h2) (λa cap w=>Tryz.slices_Sort_string_none a cap w) a0 hb
end Go.Proofs.YtalagilebkaegaaGreat
end
section
namespace Go.Proofs.YtalagilebkaegaaGreat
open Go.RowKit
set_option maxRecDepth 100000
theorem zBT:∃i z,Tryz.prog.info? 146=some i/\i.size=2/\i.zero=some z/\z.cells.size=2/\i.bytes<=1000:=by
 have h:(match Tryz.prog.info? 146 with|some i=>(match i.zero with|some z=>i.size==2&&z.cells.size==2&&decide (i.bytes<=1000)|none=>false)|none=>false)=true:=by kernel_rfl
 split at h
 ·rename_i i hi;split at h
  ·rename_i z hz;simp only[Ab,AO,AJ]at h;exact⟨i,z,hi,h.1.1,hz,h.1.2,h.2⟩
  ·cases h
 ·cases h
set_option maxHeartbeats 4000000 in
theorem zz0(w:World)(a:Option Addr)(n c:Nat)(cs:List Value)(hs:Src w 2 a n cs)(hb:n*1000<=140737488355328):
  Calls Tryz.prog 215 #[.slice a n c] w λe w'=> ∃a' c',e= .returned (.slice a' n c')/\Mod [] w w'/\(n=0/\c'=0\/ ∃g C,a'=some ⟨g,0,none⟩/\w.heap.size<=g/\Dj w' 146 2 g c' C n cs):=by
 obtain⟨i0,z0,hi,Bv,hz,CY,ES⟩:=zBT;have q22:∀(w:World) (a:Option Addr) (n c n' c':Nat),(binOp .eql 47 (.slice a n c) (.slice none n' c')).run Tryz.prog w= .ok (.bool a.isNone) w:=λw a n c n' c'=>Lib.run_eql_slice_nil w _ _ a n c n' c' Tryz.underlying47;cases a with
 |none=>
  obtain⟨_,rfl,rfl⟩:(none:Option Addr)=none/\n=0/\cs=[]:=by
   rcases hs with h|⟨ad,h,_⟩
   ·exact h
   ·cases h
  clear hs hb
  go_enter Tryz.func215,Tryz.ntmps215
  go_wp2
  go_ret
  exact⟨none,0,rfl,Mod.refl _ _,by simp⟩
 |some ad=>
  have Ct:Mod [] w (w.alloc (.cells #[] 146)):=(Mod.refl [] w).alloc _;have Bh:Src (w.alloc (.cells #[] 146)) i0.size (some ad) n cs:=by rw[Bv];exact hs.mod Ct
  obtain⟨v',w1,hr,AN⟩:=Qw (P:=Tryz.prog) (w.alloc (.cells #[] 146)) 47 47 146 i0 z0 Tryz.underlying47 hi hz (by rw[CY,Bv]) (by omega) (λ_=>False) (.slice (some ⟨w.heap.size,0,none⟩) 0 0) 0 [] (by simp) (.inl ⟨rfl,_,rfl⟩) (some ad) n c cs Bh (by simp only[maxLen];omega) (by have:=Nat.mul_le_mul_left n ES;rw[Nat.zero_add];omega)
  have fin:∃a' c',v'= .slice a' n c'/\Mod [] w w1/\(n=0/\c'=0\/ ∃g C,a'=some ⟨g,0,none⟩/\w.heap.size<=g/\Dj w1 146 2 g c' C n cs):=by
   rcases AN with⟨rfl,rfl,rfl⟩|⟨g,cap,C,rfl,h1,h2,h3,h4,h5,h6,h7⟩
   ·exact⟨_,_,rfl,Ct, .inl ⟨rfl,rfl⟩⟩
   ·have eZ:(w.alloc (.cells #[] 146)).heap.size<=g:=by
     rcases h7 with⟨h,_⟩|h
     ·omega
     ·exact h.elim
    have Kg:w.heap.size<=g:=by simp at eZ;omega
    refine⟨_,_,by rw[Nat.zero_add],⟨h6.os.trans Ct.os,h6.tape.trans Ct.tape,h6.output.trans Ct.output,Nat.le_trans Ct.size h6.size,λb hb hn=> ?_⟩, .inr ⟨g,C,rfl,Kg,by omega,h2,h3,by rw[h4,Bv],?_⟩⟩
    ·rw[h6.block b (by simp;omega) (λe=>by cases e;omega)];exact Ct.block b hb hn
    ·rw[Nat.zero_add,List.nil_append,Bv]at h5;exact h5.symm
  clear AN hs Bh Ct
  go_enter Tryz.func215,Tryz.ntmps215
  go_wp2_with (at_builtin;refine Lib.wpList_append_run _ rfl _ _ _ _ rfl _ _ rfl rfl _ _ hr ?_)
  go_ret
  obtain⟨a',c',rfl,h1,h2⟩:=fin
  exact⟨a',c',rfl,h1,h2⟩
theorem zDl:∃i z,Tryz.prog.info? 198=some i/\i.size=3/\i.zero=some z/\z.cells.size=3/\i.bytes<=1000:=by
 have h:(match Tryz.prog.info? 198 with|some i=>(match i.zero with|some z=>i.size==3&&z.cells.size==3&&decide (i.bytes<=1000)|none=>false)|none=>false)=true:=by kernel_rfl
 split at h
 ·rename_i i hi;split at h
  ·rename_i z hz;simp only[Ab,AO,AJ]at h;exact⟨i,z,hi,h.1.1,hz,h.1.2,h.2⟩
  ·cases h
 ·cases h
set_option maxHeartbeats 4000000 in
theorem zB7(w:World)(a:Option Addr)(n c:Nat)(cs:List Value)(hs:Src w 3 a n cs)(hb:n*1000<=140737488355328):
  Calls Tryz.prog 216 #[.slice a n c] w λe w'=> ∃a' c',e= .returned (.slice a' n c')/\Mod [] w w'/\(n=0/\c'=0\/ ∃g C,a'=some ⟨g,0,none⟩/\w.heap.size<=g/\Dj w' 198 3 g c' C n cs):=by
 obtain⟨i0,z0,hi,Bv,hz,CY,ES⟩:=zDl;have q22:∀(w:World) (a:Option Addr) (n c n' c':Nat),(binOp .eql 144 (.slice a n c) (.slice none n' c')).run Tryz.prog w= .ok (.bool a.isNone) w:=λw a n c n' c'=>Lib.run_eql_slice_nil w _ _ a n c n' c' Tryz.underlying144;cases a with
 |none=>
  obtain⟨_,rfl,rfl⟩:(none:Option Addr)=none/\n=0/\cs=[]:=by
   rcases hs with h|⟨ad,h,_⟩
   ·exact h
   ·cases h
  clear hs hb
  go_enter Tryz.func216,Tryz.ntmps216
  go_wp2
  go_ret
  exact⟨none,0,rfl,Mod.refl _ _,by simp⟩
 |some ad=>
  have Ct:Mod [] w (w.alloc (.cells #[] 198)):=(Mod.refl [] w).alloc _;have Bh:Src (w.alloc (.cells #[] 198)) i0.size (some ad) n cs:=by rw[Bv];exact hs.mod Ct
  obtain⟨v',w1,hr,AN⟩:=Qw (P:=Tryz.prog) (w.alloc (.cells #[] 198)) 144 144 198 i0 z0 Tryz.underlying144 hi hz (by rw[CY,Bv]) (by omega) (λ_=>False) (.slice (some ⟨w.heap.size,0,none⟩) 0 0) 0 [] (by simp) (.inl ⟨rfl,_,rfl⟩) (some ad) n c cs Bh (by simp only[maxLen];omega) (by have:=Nat.mul_le_mul_left n ES;rw[Nat.zero_add];omega)
  have fin:∃a' c',v'= .slice a' n c'/\Mod [] w w1/\(n=0/\c'=0\/ ∃g C,a'=some ⟨g,0,none⟩/\w.heap.size<=g/\Dj w1 198 3 g c' C n cs):=by
   rcases AN with⟨rfl,rfl,rfl⟩|⟨g,cap,C,rfl,h1,h2,h3,h4,h5,h6,h7⟩
   ·exact⟨_,_,rfl,Ct, .inl ⟨rfl,rfl⟩⟩
   ·have eZ:(w.alloc (.cells #[] 198)).heap.size<=g:=by
     rcases h7 with⟨h,_⟩|h
     ·omega
     ·exact h.elim
    have Kg:w.heap.size<=g:=by simp at eZ;omega
    refine⟨_,_,by rw[Nat.zero_add],⟨h6.os.trans Ct.os,h6.tape.trans Ct.tape,h6.output.trans Ct.output,Nat.le_trans Ct.size h6.size,λb hb hn=> ?_⟩, .inr ⟨g,C,rfl,Kg,by omega,h2,h3,by rw[h4,Bv],?_⟩⟩
    ·rw[h6.block b (by simp;omega) (λe=>by cases e;omega)];exact Ct.block b hb hn
    ·rw[Nat.zero_add,List.nil_append,Bv]at h5;exact h5.symm
  clear AN hs Bh Ct
  go_enter Tryz.func216,Tryz.ntmps216
  go_wp2_with (at_builtin;refine Lib.wpList_append_run _ rfl _ _ _ _ rfl _ _ rfl rfl _ _ hr ?_)
  go_ret
  obtain⟨a',c',rfl,h1,h2⟩:=fin
  exact⟨a',c',rfl,h1,h2⟩
abbrev Yp:List DT:=[.flat, .flat, .flat]
abbrev Yh:List DT:=[.flat, .row 198 3 (AA.of Yp)]
theorem zzp{l:List An}{k:Nat}(hk:k<l.length):(Aq (l.map Es)).drop (k*2)= .str l[k].ao:: .sl (l[k].bc.map MX)::(Aq (l.map Es)).drop ((k+1)*2):=by
 have hx:∀y∈l.map Es,y.cells.length=2:=λy hy=>by obtain⟨c,_,rfl⟩:=List.mem_map.1 hy;rfl
 have e1:=(S9 hx (i:=k) (by simp;omega)).2;have e2:=(S9 hx (i:=k+1) (by simp;omega)).2;rw[<-e1,<-e2,Br (show k<(l.map Es).length by simpa using hk)];simp[Aq,Es,AV.cells]
theorem zDL{w:World}{u:Value}{ys:List AV}{g:List Nat}(h:Rd w [u] [.sl ys] g):∃a c,u= .slice a ys.length c:=by
 cases h with
 |eg h=>exact⟨_,_,rfl⟩
 |scons q1 q2 q3 q4 q5 q6 q7 q8 q9 q10=>exact⟨_,_,by rw[q4]⟩
theorem zFm{w:World}{l:List An}{cs:List Value}{f:List Nat}(h:Rd w cs (Aq (l.map Es)) f){k:Nat}(hk:k<l.length):
  ∃(s:ByteArray) (a:Option Addr) (c:Nat) (f1:List Nat),cs[k*2]?=some (.string s)/\s.data.toList=l[k].ao/\s.size<=9223372036854775807/\cs[k*2+1]?=some (.slice a l[k].bc.length c)/\Rd w [.slice a l[k].bc.length c] [.sl (l[k].bc.map MX)] f1/\(∀b∈f1,b∈f):=by
 obtain⟨g,hg,hp⟩:=h.piece (k*2) 2;rw[zzp hk]at hp;simp only[List.take_succ_cons,List.take_zero]at hp;obtain⟨s,us,e1,e2,e3,hp⟩:=iQ hp;have hl:=hp.len
 match us,hl with
 | [u],_=>
  have e4:cs[k*2]?=some (.string s):=by have:=congrArg (λL=>L[0]?) e1;simpa[List.getElem?_take,List.getElem?_drop]using this
  have e5:cs[k*2+1]?=some u:=by have:=congrArg (λL=>L[1]?) e1;simpa[List.getElem?_take,List.getElem?_drop]using this
  obtain⟨a,c,rfl⟩:=zDL hp;rw[List.length_map]at e5 hp;exact⟨s,a,c,g,e4,e2,e3,e5,hp,hg⟩
theorem vE{w:World}{v:Value}{ys:List AV}{f:List Nat}{K:Nat}(h:Rd w [v] [.sl ys] f)(hK:∀y∈ys,y.cells.length=K)(hb:ys.length<=9223372036854775807):
  ∃a c cs f1,v= .slice a ys.length c/\Src w K a ys.length cs/\Rd w cs (Aq ys) f1/\ ∀b∈f1,b∈f:=by
 cases h with
 |eg h=>
  rename_i a c;refine⟨a,c,[],[],rfl,?_,by simpa[Aq]using Rd.nil,by simp⟩;cases a with
  |none=>exact .inl ⟨rfl,rfl,rfl⟩
  |some ad=>exact .inr ⟨ad,rfl,by simp,by simp,by simp⟩
 | @scons b o n c ys cs C ty fz sz f1 vs xs f2 q1 q2 q3 q4 q5 q6 q7 q8 q9 q10=>
  subst q4;have Bv:sz=K:=by
   cases ys with
   |nil=>simp at q2
   |cons y ys=>rw[<-q5 y (by simp),hK y (by simp)]
  subst Bv;refine⟨some ⟨b,o,none⟩,c,cs,f1,rfl, .inr ⟨⟨b,o,none⟩,rfl,?_,λj u hj=> ?_,q8⟩,q9,λx hx=>by simp[hx]⟩
  ·rw[q9.len,Lq _ hK]
  ·rw[Addr.add_lit,EU q1];exact q7 j u hj
theorem zwq{L:List Value}{k:Nat}{s v:Value}(hs:L[k*2]?=some s)(hl:k*2+1<L.length):(L.set (k*2+1) v).take ((k+1)*2)=L.take (k*2)++ [s,v]:=by rw[show(k+1)*2=k*2+1+1 by omega,List.take_add_one,List.take_add_one,List.take_set_of_le (by omega)];rw[List.getElem?_set_ne (by omega),hs,List.getElem?_set_self hl];simp
theorem zAZ{L M:List Value}{k n:Nat}{v:Value}(h:(L.take (n*2)).drop (k*2)=M.drop (k*2)):((L.set (k*2+1) v).take (n*2)).drop ((k+1)*2)=M.drop ((k+1)*2):=by
 have e:((L.set (k*2+1) v).take (n*2)).drop ((k+1)*2)=(L.take (n*2)).drop ((k+1)*2):=by rw[List.take_set,List.drop_set_of_lt (by omega)]
 rw[e,show(k+1)*2=k*2+2 by omega,<-List.drop_drop,h,List.drop_drop]
def TI(w1:World)(g cap n:Nat)(cs:List Value)(ys:List AV)(k:Nat)(wr:World):Prop:=
 ∃C N,wr.heap[g]?=some (.cells C 146 (0,0))/\C.size=cap*2/\(C.toList.take (n*2)).drop (k*2)=cs.drop (k*2)/\DC wr (Bz k Yh) (C.toList.take (k*2)) (Aq (ys.take k)) N/\(∀u∈C.toList.take (k*2),u.oneCell'=true)/\
  N.Nodup/\(∀b∈N,w1.heap.size<=b/\b<wr.heap.size)/\Mod [g] w1 wr
theorem TI.next{w w1 wr w2:World}{g cap k:Nat}{cs cs':List Value}{l:List An}(hn:l.length<=cap)(DM:Mod [] w w1)(Kg:w.heap.size<=g)(sI:g<w1.heap.size)(hI:TI w1 g cap l.length cs (l.map Es) k wr)(hk:k<l.length)
  {s:ByteArray} {a':Option Addr} {c':Nat} (e1:cs[k*2]?=some (.string s)) (e2:s.data.toList=l[k].ao) (e3:s.size<=9223372036854775807) (JE:Rd w cs' (Aq (l[k].bc.map MX)) []) (Lb:∀u∈cs',u.oneCell'=true)
  (CS:Mod [] wr w2) (AN:l[k].bc.length=0/\c'=0\/ ∃g2 C2,a'=some ⟨g2,0,none⟩/\wr.heap.size<=g2/\Dj w2 198 3 g2 c' C2 l[k].bc.length cs'):
  TI w1 g cap l.length cs (l.map Es) (k+1) (w2.setCell ⟨g,k*2+1,none⟩ (.slice a' l[k].bc.length c')):=by
 obtain⟨C,N,i1,i2,i3,i4,i5,i6,i7,i8⟩:=hI;have O7:g<wr.heap.size:=Dh i1;have j1:w2.heap[g]?=some (.cells C 146 (0,0)):=by rw[CS.block g O7 (by simp)];exact i1
 have j2:=heap_setCell_same w2 g (k*2+1) C 146 (.slice a' l[k].bc.length c') j1;have DP:C.toList.length=cap*2:=by simpa using i2
 have U1:C.toList[k*2]?=some (.string s):=by have:=congrArg (λL=>L[0]?) i3;simp only[List.getElem?_drop,List.getElem?_take,Nat.add_zero]at this;rw[if_pos (by omega)]at this;rw[this];exact e1
 have hT:∃T,DC w2 [.row 198 3 (AA.of Yp)] [.slice a' l[k].bc.length c'] [.sl (l[k].bc.map MX)] T/\T.Nodup/\ ∀b∈T,wr.heap.size<=b/\b<w2.heap.size:=by
  rcases AN with⟨h0,rfl⟩|⟨g2,C2,rfl,hg2,r1,r2,r3,r4,r5⟩
  ·have:l[k].bc=[]:=List.eq_nil_of_length_eq_zero h0;rw[this];exact⟨[], .void (by omega) (by rw[AA.ay];rfl) .nil,by simp,by simp⟩
  ·have AB:(C2.toList.take (l[k].bc.length*3)).length=l[k].bc.length*3:=by
    have:C2.toList.length=c'*3:=by simpa using r4
    rw[Au,this];omega
   have hd:=DC.kq (w:=w2) (JE.frame (by simp)) (ts:=Bz l[k].bc.length Yp) (bN _ rfl) (by rw[Lt,r5,AB];rfl);rw[r5]at hd;have:=DC.row (w:=w2) (e:=198) (z:=3) (l:=AA.of Yp) (g:=g2) (cap:=c') (C:=C2) (ys:=l[k].bc.map MX) (N1:=[]) (ts:=[]) (vs:=[]) (xs:=[]) (N:=[]) (by omega) (by rw[AA.ay];rfl) r3 (by simpa using r1) r2 r4 (λy hy=>by obtain⟨x,_,rfl⟩:=List.mem_map.1 hy;rfl) (by rw[List.length_map,<-r5];exact Lb) (by rw[List.length_map,AA.ay];exact hd) .nil
   refine⟨[g2],by simpa using this,by simp,λb hb=> ?_⟩;simp only[List.mem_singleton]at hb;subst hb;exact⟨hg2,Dh r3⟩
 obtain⟨T,t1,t2,t3⟩:=hT;have hgT:g∉T:=λh=>by have:=(t3 g h).1;omega
 have eV:g∉N:=λh=>by have:=(i7 g h).1;omega
 have L3:∀b,b≠g->(w2.setCell ⟨g,k*2+1,none⟩ (.slice a' l[k].bc.length c')).heap[b]?=w2.heap[b]?:=λb hb=>Below.heap_setCell _ _ _ _ (by simpa using hb);have Bv:(w2.setCell ⟨g,k*2+1,none⟩ (.slice a' l[k].bc.length c')).heap.size=w2.heap.size:=by simp[World.setCell]
 refine⟨_,N++T,j2,by simpa using i2,?_,?_,?_,?_,?_,?_⟩
 ·rw[Array.toList_setIfInBounds];exact zAZ i3
 ·rw[Array.toList_setIfInBounds,zwq U1 (by rw[DP];omega),Lu,zx0,List.take_add_one,show(l.map Es)[k]?=some (Es l[k]) by simp[hk]];have e5:Aq ((l.map Es).take k++(some (Es l[k])).toList)=Aq ((l.map Es).take k)++ [.str l[k].ao, .sl (l[k].bc.map MX)]:=by simp[Aq,Es,AV.cells]
  rw[e5];refine DC.app ((i4.frame (w':=w2) λb hb=>CS.block b (i7 b hb).2 (by simp)).frame λb hb=>L3 b λe=>eV (e▸hb)) ?_;have G5:Rd (w2.setCell ⟨g,k*2+1,none⟩ (.slice a' l[k].bc.length c')) [.string s] [.str l[k].ao] []:=by rw[<-e2];exact .str e3 .nil
  exact .flat G5 (t1.frame λb hb=>L3 b λe=>hgT (e▸hb))
 ·rw[Array.toList_setIfInBounds,zwq U1 (by rw[DP];omega)];intro u hu;rcases Ac.1 hu with hu|hu
  ·exact i5 u hu
  ·simp only[Ae,List.not_mem_nil,or_false]at hu;rcases hu with rfl|rfl<;>rfl
 ·exact List.nodup_append.2 ⟨i6,t2,λx hx y hy e=>by have:=(i7 x hx).2;have:=(t3 y hy).1;omega⟩
 ·intro b hb;rw[Bv];have:=CS.size;have:=i8.size;rcases Ac.1 hb with hb|hb
  ·have:=i7 b hb;omega
  ·have:=t3 b hb;omega
 ·exact(i8.trans CS (by simp)).setCell (by simp) _
set_option maxHeartbeats 4000000 in
theorem zy8(l:List An)(w:World)(v:Value)(f:List Nat)(hr:Rd w [v] [.sl (l.map Es)] f)(hl:l.length*1000<=140737488355328)(hv:∀c∈l,c.bc.length*1000<=140737488355328):
  Calls Tryz.prog 154 #[v] w λe w'=> ∃v' N,e= .returned v'/\DC w' [.row 146 2 (AA.of Yh)] [v'] [.sl (l.map Es)] N/\N.Nodup/\(∀b∈N,w.heap.size<=b/\b<w'.heap.size)/\Mod [] w w':=by
 obtain⟨a,c,cs,f1,rfl,hs,s4,_⟩:=vE (K:=2) hr (λy hy=>by obtain⟨x,_,rfl⟩:=List.mem_map.1 hy;rfl) (by simp;omega);rw[List.length_map]at hs ⊢;have AB:=zz0 w a l.length c cs hs hl;have H1:=Lib.hid s4;have H2:=Lib.hid hv;have H3:=Lib.hid hs;clear s4 hv hs hr
 go_enter Tryz.func154,Tryz.ntmps154
 go_wp2_with (go_at_call 215;refine AB.mono ?_;rintro e w1 ⟨a1,cap,rfl,DM,h1⟩)
 have HM:=Lib.hid DM;rcases h1 with⟨hz,rfl⟩|⟨g,C0,rfl,Kg,AX⟩
 ·have I4:l=[]:=List.eq_nil_of_length_eq_zero hz;subst I4;clear DM AB
  go_loopw [9] (λs9 wr=>s9= .int .i64 0/\wr=w1) (λ_ _=>0)
  case atStart=>exact⟨rfl,rfl⟩
  case round=>
   obtain⟨rfl,rfl⟩:=hrel
   go_wp2
   go_ret
   exact⟨_,[],rfl, .void (by omega) (by rw[AA.ay];rfl) .nil,by simp,by simp,HM.out⟩
 ·have HI:Hid (TI w1 g cap l.length cs (l.map Es) 0 w1):=by
   obtain⟨r1,r2,r3,r4,r5⟩:=AX;exact⟨C0,[],r3,r4,by rw[Nat.zero_mul,List.drop_zero,List.drop_zero];exact r5.symm,by simpa[Bz,Aq]using DC.nil,by simp,by simp,by simp,Mod.refl _ _⟩
  have FB:l.length<=cap:=AX.1;have Gq:cap<=9223372036854775807:=AX.2.1;have sI:g<w1.heap.size:=Dh AX.2.2.1;clear AX DM AB
  go_loopw [9] (λs9 wr=> ∃k:Nat,k<=l.length/\s9= .int .i64 k/\Hid (TI w1 g cap l.length cs (l.map Es) k wr)) (λs9 _=>l.length-(intOf s9).toNat)
  case atStart=>exact⟨0,by omega,rfl,HI⟩
  case round=>
   obtain⟨k,hk,rfl,HK⟩:=hrel;by_cases AD:k<l.length
   ·obtain⟨s,av,cv,fv,e1,e2,e3,e4,e5,_⟩:=zFm H1.out AD;obtain⟨b1,b2,cs',fv',b3,Bh,JE,_⟩:=vE (K:=3) e5 (λy hy=>by obtain⟨x,_,rfl⟩:=List.mem_map.1 hy;rfl) (by have:=H2.out _ (Aw AD);simp;omega);rw[List.length_map]at b3;cases b3;have Ca:fv'=[]:=HV JE λy hy=>by
     unfold Aq at hy;obtain⟨x,hx,hy⟩:=List.mem_flatMap.1 hy;obtain⟨q,_,rfl⟩:=List.mem_map.1 hx;simp[MX,AV.cells]at hy;rcases hy with rfl|rfl|rfl<;>rfl
    subst Ca;rw[List.length_map]at Bh;obtain⟨C,N,i1,i2,i3,i4,i5,i6,i7,i8⟩:=HK.out;have sS:Mod [] w wr:=HM.out.trans i8 (by simp;omega);have QT:=zB7 wr av l[k].bc.length cv cs' (Bh.mod sS) (H2.out _ (Aw AD));have IX:C[k*2+1]?=some (.slice av l[k].bc.length cv):=by have:=congrArg (λL=>L[1]?) i3;simp only[List.getElem?_drop,List.getElem?_take]at this;rw[if_pos (by omega)]at this;rw[<-Array.getElem?_toList,this];exact e4
    have B6:wr.cell? ⟨g,k*2+1,none⟩=some (.slice av l[k].bc.length cv):=by rw[Tx i1];exact IX
    have O7:g<wr.heap.size:=Dh i1;have B5:∀w2,Mod [] wr w2->w2.cell? ⟨g,k*2+1,none⟩=some (.slice av l[k].bc.length cv)/\w2.frozen? ⟨g,k*2+1,none⟩=false:=λw2 CS=>by
     have j1:w2.heap[g]?=some (.cells C 146 (0,0)):=by rw[CS.block g O7 (by simp)];exact i1
     exact⟨by rw[Tx j1];exact IX,aC j1⟩
    have Lb:∀u∈cs',u.oneCell'=true:=by
     rcases Bh with⟨_,_,rfl⟩|⟨_,_,_,_,h⟩
     ·simp
     ·exact h
    obtain⟨m,hm⟩:∃m,m=l[k].bc.length:=⟨_,rfl⟩
    rw[<-hm]at B6 B5 QT;have HE:=Lib.hid (And.intro hm (And.intro e1 (And.intro e2 (And.intro e3 (And.intro JE Lb)))));have HA:=Lib.hid B5;clear B5 hm e1 e2 e3 e4 e5 JE Lb i1 i2 i3 i4 i5 i6 i7 i8 sS Bh IX
    go_wp2_with (go_at_call 216;refine QT.mono ?_;rintro e w2 ⟨a',c',rfl,CS,AN⟩;obtain⟨hc2,eP⟩:=HA.out w2 CS)
    go_roundw
    case rel=>
     obtain⟨hm,e1,e2,e3,JE,Lb⟩:=HE.out;subst hm;exact⟨k+1,by omega,by go_num,TI.next FB HM.out Kg sI HK.out AD e1 e2 e3 JE Lb CS AN⟩
    case measure=>simp[intOf];omega
   ·obtain rfl:k=l.length:=by omega
    go_wp2
    go_ret
    obtain⟨C,N,i1,i2,i3,i4,i5,i6,i7,i8⟩:=HK.out;have hd:=DC.row (w:=wr) (e:=146) (z:=2) (l:=AA.of Yh) (g:=g) (cap:=cap) (C:=C) (ys:=l.map Es) (N1:=N) (ts:=[]) (vs:=[]) (xs:=[]) (N:=[]) (by omega) (by rw[AA.ay];rfl) i1 (by simpa using FB) Gq i2 (λy hy=>by obtain⟨x,_,rfl⟩:=List.mem_map.1 hy;rfl) (by rw[List.length_map];exact i5) (by rw[List.length_map,AA.ay];have h4:=i4;rw[show List.take l.length (l.map Es)=l.map Es from List.take_of_length_le (by simp)]at h4;exact h4) .nil
    refine⟨_,g::N,rfl,by simpa using hd,List.nodup_cons.2 ⟨λh=>by have:=(i7 g h).1;omega,i6⟩,λb hb=> ?_,HM.out.trans i8 (by simp;omega)⟩;have:=HM.out.size;rcases Ae.1 hb with rfl|hb
    ·exact⟨Kg,Dh i1⟩
    ·have:=i7 b hb;omega
def wD(P:Program)(sg:B4)(f t el K:Nat)(l:List DT):Bool:=
 match P.funcs[f]?,sg f with
 |some fn,some s=>(match s.cf,s.res,s.ft,s.lo with
  | [],[true],[],[]=>true
  | [.ro],[true],[],[]=>true
  |_,_,_,_=>false)&&fn.body.isSome&& !(fn.name== "runtime.NumGoroutine")&&fn.params.toList==[t]&&(Dz fn s)==[t]&&fn.nfree==0&& !Ap P t&&Bl P t==[t]&&C3 P t==some el&& !Cg P el&&KX (DK P t) el K l&&Gj P t [true]&&fn.params.size==1
 |_,_=>false
noncomputable def R9(l:List An):Option (List An):=req (l.length*1000<=140737488355328/\ ∀c∈l,c.bc.length*1000<=140737488355328) (some l)
theorem zqK(a0 r:List An)(h:R9 a0=some r):Cr Tryz.prog B9 154 [.sl (a0.map Es)] (.sl (r.map Es)):=by
 obtain⟨⟨hb,hv⟩,h⟩:=Gm h;cases h;have hk:wD Tryz.prog B9 154 47 146 2 Yh=true:=by kernel_rfl
 have Ca:∀r,H7 Tryz.prog B9 154 r=true:=λ_=>by kernel_rfl
 unfold wD at hk;split at hk
 ·rename_i fn s hf hs;simp only[Ab,Be,AO]at hk;obtain⟨⟨⟨⟨⟨⟨⟨⟨⟨⟨⟨⟨g1,g2⟩,g3⟩,g4⟩,g5⟩,g6⟩,g7⟩,g8⟩,g9⟩,g10⟩,g11⟩,g12⟩,g13⟩:=hk;have g11:=N8 g11;obtain⟨hm,hr,CB,BZ⟩:(∀m∈s.cf,m= .ro)/\s.res=[true]/\s.ft=[]/\s.lo=[]:=by
   split at g1
   ·rename_i a b c d;exact⟨by rw[a];simp,b,c,d⟩
   ·rename_i a b c d;exact⟨by rw[a];simp,b,c,d⟩
   ·cases g1
  unfold Cr;rw[if_pos (K4 _ s hs)];refine⟨s,hs,fn,hf,g2,g3,by have:=Ca (a0.map Es);unfold H7 at this;rw[hf,hs]at this;exact this,by simp[g6,g13],by simp[CB],λw vs rf lf Bh Aj hd _ Cb Ed=> ?_⟩;obtain⟨Dn,rfl⟩:=Aj.rd BZ hm;have L8:=Dn.len
  match vs,L8 with
  | [v],_=>
   refine(zy8 a0 w v rf Dn hb hv).mono ?_;rintro e w' ⟨v',N,rfl,Bq,hN,Cm,Bp⟩;refine⟨_,rfl,⟨⟨_,[],[],N,[],[],rfl,?_,D7.jd (by rw[g4,CB];rfl) hm,by simpa using hN,?_,by simp⟩,Bp⟩⟩
   ·rw[g5];show Ea Tryz.prog w' _ s.res _ _ [] _;unfold Ea;rw[hr,if_pos g12];refine⟨[v'],[.sl (a0.map Es)],by rw[g7];simp,?_⟩;rw[g8];have:=CA.deep (P:=Tryz.prog) (t:=47) (ts:=[]) (fl:=[true]) (us:=[]) (ys:=[]) (rf:=[]) (hs:=[]) rfl g9 g10 g11 Bq .nil;simpa using this
   ·intro b hb;rw[AE]at hb;exact⟨.inr (Cm b hb).1,(Cm b hb).2⟩
 ·cases hk
end Go.Proofs.YtalagilebkaegaaGreat
end

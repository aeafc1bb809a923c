/- Parts of a proof, joined: DA, DB, MA, MB, OB, OG, QA, QO, MC, MD, QT, TF, QL, HB, SP, HL, IA, IC, ID, IE, IF, IG, IB, CM, SS, CC. -/
import Derived.Test.YtalagilebkaegaaGreatR6
import Derived.Test.YtalagilebkaegaaGreatProg
import Derived.Test.YtalagilebkaegaaGreatChecked
import Derived.Shelf.Small.Bits
import Derived.Shelf.Small.Strs
import Derived.Shelf.Small.Wraps
import Derived.Shelf.Strconv.Itoa0
import Derived.Shelf.Strings.Search1
import Derived.Shelf.Sort.Plain
import Derived.Ground.Names2Prog
import Derived.Shelf.Slices.CompactI
import Derived.Shelf.Slices.CompactS
import Derived.Shelf.Slices.Cells
import Derived.Shelf.Slices.In.SortNone
import Derived.Laws.CopyRow
import Derived.Lib.AppendZerosOnto
import Derived.Lib.Overlaps
import Derived.Lib.SliceRun
import Derived.Lib.SlicesDelete
import Derived.Shelf.RegionOpenPlain
import Derived.Deep.RegionLaw
import Derived.Lib.RowBridge
set_option linter.unusedVariables false
set_option linter.unusedSimpArgs false
section
namespace Go.Proofs.YtalagilebkaegaaGreat
open Go.RowKit
noncomputable def oU(t:TypeId):List Bool:=(Bf Tryz.prog t).map λu=>match CX Tryz.prog u with|some e=>Cc Tryz.prog e|none=>false
noncomputable def sV(u:TypeId):List Bool:=if u=77 then []else oU u
noncomputable def zFE(fn:Func):G8:={b8:=fn.params.toList.map λt=>match KU Tryz.prog t with|some u=> .bx (sV u) (sV u)|none=> .ro,res:=fn.resultTypes.toList.flatMap oU}
noncomputable def zEM(f:Nat):Option G8:=
 match f with
 |5=>some {b8:=[],res:=[false],dp:=true}
 |6=>some {b8:=[],res:=[false],dp:=true}
 |8=>some {b8:=[],res:=[]}
 |9=>some {b8:=[.ro, .ro],res:=[true,true,true,true,false],dp:=true}
 |10=>some {b8:=[.ro, .ro],res:=[true,true,true,true,false],dp:=true}
 |15=>some {b8:=[],res:=[]}
 |16=>some {b8:=[.ro, .ro],res:=[true,true,true,false],dp:=true}
 |17=>some {b8:=[.ro, .ro],res:=[true,true,true,false],dp:=true}
 |19=>some {b8:=[.ro],res:=[true,true,true,false],dp:=true}
 |21=>some {b8:=[],res:=[]}
 |22=>some {b8:=[.ro],res:=[true,true,true,false],dp:=true}
 |23=>some {b8:=[],res:=[]}
 |26=>some {b8:=[],res:=[true,true,true],dp:=true}
 |29=>some {b8:=[.mu [true,true,true], .ro],res:=[],dp:=true}
 |35=>some {b8:=[.mu [true], .ro],res:=[]}
 |36=>some {b8:=[.mu [true], .ro],res:=[]}
 |38=>some {b8:=[.bx [] []],res:=[]}
 |39=>some {b8:=[.ro],res:=[true,true,true],dp:=true}
 |40=>some {b8:=[.ro, .ro],res:=[true,true,true,false],dp:=true}
 |42=>some {b8:=[.ro, .ro],res:=[true,true,true,true],dp:=true}
 |55=>some {b8:=[.bx [] []],res:=[true,false,false],dp:=true}
 |57=>some {b8:=[.ro, .ro],res:=[true,true,true,false],dp:=true}
 |58=>some {b8:=[.va [true,true,true], .ro, .bx [true,true,true] [true,true,true]],res:=[],ft:=[1000000028],dp:=true}
 |63=>some {b8:=[.ro, .ro],res:=[true,true,true,false],dp:=true}
 |64=>some {b8:=[.ro, .ro, .ro],res:=[true,true,true,false],dp:=true}
 |65=>some {b8:=[],res:=[]}
 |66=>some {b8:=[.ro],res:=[true,true,true],dp:=true}
 |67=>some {b8:=[.ro, .ro],res:=[]}
 |68=>some {b8:=[.ro, .ro],res:=[]}
 |75=>some {b8:=[],res:=[true],dp:=true}
 |76=>some {b8:=[],res:=[true],dp:=true}
 |80=>some {b8:=[.mu [true], .ro],res:=[]}
 |81=>some {b8:=[.mu [true], .ro],res:=[],dp:=true}
 |82=>some {b8:=[.mu [true], .ro],res:=[],dp:=true}
 |88=>some {b8:=[.bx [] []],res:=[]}
 |92=>some {b8:=[.ro],res:=[false,true,true,true],dp:=true}
 |96=>some {b8:=[.ro, .ro, .ro],res:=[true,true,true,false],dp:=true}
 |97=>some {b8:=[.ro, .ro, .ro],res:=[true,true,true,false],dp:=true}
 |103=>some {b8:=[.ro],res:=[]}
 |116=>some {b8:=[.bx [] []],res:=[false,true,true,true],dp:=true}
 |120=>some {b8:=[.ro, .ro],res:=[false,true,true,true,false],dp:=true}
 |127=>some {b8:=[.ro, .ro, .ro],res:=[true,true,true,false],dp:=true}
 |130=>some {b8:=[.ro],res:=[true],dp:=true}
 |131=>some {b8:=[.ro],res:=[false,true,true,true],dp:=true}
 |132=>some {b8:=[.ro, .ro],res:=[]}
 |133=>some {b8:=[.ro, .ro],res:=[]}
 |136=>some {b8:=[],res:=[false,true,true,true],dp:=true}
 |141=>some {b8:=[.mu [true], .ro],res:=[],dp:=true}
 |142=>some {b8:=[.mu [true], .ro],res:=[],dp:=true}
 |143=>some {b8:=[.mu [true], .ro],res:=[]}
 |144=>some {b8:=[.mu [true], .ro],res:=[]}
 |151=>some {b8:=[.ro, .ro],res:=[]}
 |154=>some {b8:=[.ro],res:=[true],dp:=true}
 |172=>some {b8:=[.va [true]],res:=[true]}
 |177=>some {b8:=[.ro],res:=[]}
 |185=>some {b8:=[.bx [] []],res:=[false,true,true,true],dp:=true}
 |191=>some {b8:=[.ro, .ro],res:=[false,true,true,true,false],dp:=true}
 |193=>some {b8:=[.ro, .ro],res:=[false,true,true,true,false],dp:=true}
 |195=>some {b8:=[.ro],res:=[true],dp:=true}
 |197=>some {b8:=[.ro, .ro],res:=[]}
 |203=>some {b8:=[],res:=[true],dp:=true}
 |204=>some {b8:=[],res:=[true],dp:=true}
 |211=>some {b8:=[.mu [true], .ro],res:=[]}
 |218=>some {b8:=[.va [true], .ro],res:=[true],wn:=true}
 |220=>some {b8:=[.va [true], .ro],res:=[true],wn:=true}
 |228=>some {b8:=[.mu [true]],res:=[]}
 |229=>some {b8:=[.va [true]],res:=[true]}
 |240=>some {b8:=[.ro],res:=[false,true,true,true,true],dp:=true}
 |245=>some {b8:=[.va [true], .va [false,false,false,true,true]],res:=[true],dp:=true,wn:=true}
 |247=>some {b8:=[.ro, .ro, .ro],res:=[true,false],dp:=true,wn:=true}
 |248=>some {b8:=[.va [true], .ro],res:=[true],dp:=true,wn:=true}
 |250=>some {b8:=[.ro, .ro],res:=[false,true,true,true,false],dp:=true}
 |252=>some {b8:=[.va [true], .ro, .va [true]],res:=[true]}
 |269=>some {b8:=[.mu [true], .ro, .ro, .ro],res:=[]}
 |279=>some {b8:=[.bx [] []],res:=[]}
 |280=>some {b8:=[.ro, .ro, .ro],res:=[true,false],dp:=true}
 |281=>some {b8:=[.va [true], .ro, .ro],res:=[true]}
 |282=>some {b8:=[.va [true], .ro, .va [true]],res:=[true]}
 |284=>some {b8:=[.ro],res:=[true],sh:=true}
 |291=>some {b8:=[.mu [true], .ro, .ro],res:=[]}
 |292=>some {b8:=[.mu [true], .ro, .ro],res:=[]}
 |293=>some {b8:=[.mu [true], .ro, .ro],res:=[]}
 |294=>some {b8:=[.mu [true], .ro, .ro],res:=[]}
 |295=>some {b8:=[.mu [true], .ro, .ro],res:=[]}
 |296=>some {b8:=[.mu [true], .ro, .ro],res:=[]}
 |298=>some {b8:=[.mu [true], .ro, .ro, .ro],res:=[]}
 |299=>some {b8:=[.mu [true], .ro, .ro, .ro],res:=[]}
 |306=>some {b8:=[.va [true], .ro, .va [true]],res:=[true]}
 |313=>some {b8:=[.mu [true], .ro, .ro, .ro],res:=[]}
 |316=>some {b8:=[.mu [true], .ro, .bx [false] [false]],res:=[]}
 |317=>some {b8:=[.mu [true], .ro, .ro, .ro, .bx [false] [false]],res:=[]}
 |323=>some {b8:=[.mu [true], .ro, .ro, .bx [false] [false]],res:=[]}
 |325=>some {b8:=[.mu [true]],res:=[]}
 |_=>none
noncomputable def sY(f:Nat):Option G8:=match Tryz.prog.funcs[f]? with
 |some fn=>some ((zEM f).getD (zFE fn))
 |none=>none
noncomputable def B3:BY:={f:=sY}
theorem zE6:Tryz.prog.follows .mixedOrders=true:=by kernel_rfl
theorem zF5:Tryz.prog.funcs.size<1000000:=by
 have:(decide (Tryz.prog.funcs.size<1000000))=true:=by kernel_rfl
 exact of_decide_eq_true this
theorem KC(f:Nat)(s:G8)(h:B3 f=some s):f<1000000:=by
 simp only[B3]at h;unfold sY at h;split at h
 ·rename_i fn hf;have:=(Array.getElem?_eq_some_iff.1 hf).1;exact Nat.lt_trans this zF5
 ·cases h
def XC(P:Program)(sg:BY)(f:Nat)(xs:List AV)(r:AV):Bool:=
 match P.funcs[f]?,sg f with
 |some fn,some s=> !(fn.name== "runtime.NumGoroutine")&&NN P fn s r&&xs.length==fn.params.size+fn.nfree
 |_,_=>false
abbrev Den(t:Tr)(r:AV)(xs:List AV):Prop:=t.den (Co Tryz.prog B3) (λr'=>r'=r) (λ_ _ _ _=>False) [] xs
theorem Ga{f:Nat}{t:Tr}{xs:List AV}{r:AV}(hc:UI Tryz.prog B3 f=some t)(hk:XC Tryz.prog B3 f xs r=true)(hd:Den t r xs):Co Tryz.prog B3 f xs r:=by
 unfold XC at hk;split at hk
 ·rename_i fn s hf hs;simp only[Ab,Bc,AM]at hk;unfold Co;rw[if_pos (KC f s hs)];exact⟨s,hs,zBZ zE6 KC hf hs hk.1.1 hc hk.1.2 hk.2 hd⟩
 ·cases hk
section
variable {Rt:Nat->List AV->AV->Prop} {R:AV->Prop} {L:LK} {js:List JK} {ρ:List AV}
theorem zR{i:EL}{b k:Tr}(hL:KG L)(I:Nat->List AV->Prop){m:Nat}(h0:I m (i.den ρ))(Gy:∀m vs,I m vs->b.den Rt R L ((λus=> ∃m',m'<m/\I m' us)::(λus=>k.den Rt R L js (ρ++us))::js) (ρ++vs)):(Tr.loop i b k).den Rt R L js ρ:=by
 have hb:∀W W':JK,(∀vs,W vs->W' vs)-> ∀vs,b.den Rt R L (W::(λus=>k.den Rt R L js (ρ++us))::js) (ρ++vs)->b.den Rt R L (W'::(λus=>k.den Rt R L js (ρ++us))::js) (ρ++vs):=
  λW W' hW vs hv=>b.fu hL hv (.cons hW (Eo.refl _))
 have mono:∀n vs,Ju (λW vs=>b.den Rt R L (W::(λus=>k.den Rt R L js (ρ++us))::js) (ρ++vs)) n vs-> ∀n',n<=n'->Ju (λW vs=>b.den Rt R L (W::(λus=>k.den Rt R L js (ρ++us))::js) (ρ++vs)) n' vs:=by
  intro n
  induction n with
  |zero=>intro vs h;exact h.elim
  |succ n ih=>
   intro vs h n' hn;cases n' with
   |zero=>omega
   |succ n'=>exact hb _ _ (λus hu=>ih us hu n' (by omega)) vs h
 have key:∀m vs,I m vs->Ju (λW vs=>b.den Rt R L (W::(λus=>k.den Rt R L js (ρ++us))::js) (ρ++vs)) (m+1) vs:=by
  intro m
  induction m using Nat.strongRecOn with
  |_ m ih=>intro vs hI;exact hb _ _ (λus ⟨m',hm,hu⟩=>mono _ _ (ih m' hm us hu) m (by omega)) vs (Gy m vs hI)
 exact⟨m+1,key m _ h0⟩
theorem kM:KG (λ_ _ _ _=>False):=λ_ _ _ _ _ _ h=>h
end
@[simp] theorem zFU(ρ:List AV):BA ρ []↔True:=⟨λ_=>trivial,λ_=>E4 ρ⟩
@[simp] theorem zFJ(ρ:List AV)(x:E)(b:Bool)(gs:Gd):BA ρ ((x,b)::gs)↔x.den ρ= .bool b/\BA ρ gs:=
 ⟨λh=>⟨h (x,b) (by simp),λg hg=>h g (by simp[hg])⟩,λh g hg=>by rcases Ae.1 hg with rfl|hg;exact h.1;exact h.2 g hg⟩
attribute [simp] E.den EL.den Cn.den AV.fld AV.proj AV.deref AV.len AV.slen AV.idx AV.nth AV.ey AV.ir AV.conv AV.bin AV.bbin AV.sbin AV.app AV.dd AV.rep
@[simp] theorem zEh(cs:List AV):(AV.agg cs).cells=cs:=rfl
@[simp] theorem zEW(k:IntKind)(n:Int):(AV.int k n).cells=[.int k n]:=rfl
@[simp] theorem zEd(b:Bool):(AV.bool b).cells=[.bool b]:=rfl
@[simp] theorem zEk(s:List UInt8):(AV.str s).cells=[.str s]:=rfl
@[simp] theorem zFd(xs:List AV):(AV.sl xs).cells=[.sl xs]:=rfl
@[simp] theorem zEf(k:IntKind)(n:Int):(AV.int k n).scalar=true:=rfl
@[simp] theorem zDY(b:Bool):(AV.bool b).scalar=true:=rfl
@[simp] theorem zEc(s:List UInt8):(AV.str s).scalar=true:=rfl
@[simp] theorem zFv(b c d:Bool):AV.cond (.bool b) (.bool c) (.bool d)= .bool (bif b then c else d):=by cases b<;>rfl
theorem zvF{y:AV}(h:y.scalar=true):y.cells=[y]:=by cases y<;>first|rfl|simp[AV.scalar]at h
theorem CQ{n:Int}(h1: -9223372036854775808<=n)(h2:n<=9223372036854775807):IntKind.i64.wrap n=n:=by rw[IntKind.wrap_i64];omega
end Go.Proofs.YtalagilebkaegaaGreat
end
section
namespace Go.Proofs.YtalagilebkaegaaGreat
open Go.RowKit
section
variable {Rt:Nat->List AV->AV->Prop} {R:AV->Prop} {L:LK} {js:List JK} {ρ:List AV}
theorem Dy{gs:Gd}{c:Cn}{k:Tr}(h:BA ρ gs->c.den ρ)(hk:k.den Rt R L js ρ):(Tr.cj gs c k).den Rt R L js ρ:=⟨h,hk⟩
theorem mW{gs:Gd}{f:Nat}{args:EL}{k:Tr}{r:AV}(h:BA ρ gs->Rt f (args.den ρ) r)(hk:k.den Rt R L js (ρ++ [r])):(Tr.call gs (.inl f) args k).den Rt R L js ρ:=⟨r,h,hk⟩
theorem lI{gs:Gd}{x:E}{args:EL}{k:Tr}{r:AV}(h:BA ρ gs-> ∃g caps,x.den ρ= .fn g caps/\Rt (1000000+g) (args.den ρ++caps) r/\ ∀y∈r.cells,y.scalar=true)(hk:k.den Rt R L js (ρ++ [r])):(Tr.call gs (.inr x) args k).den Rt R L js ρ:=⟨r,h,hk⟩
theorem F9{c:E}{a b:Tr}{t:Bool}(h:c.den ρ= .bool t)(ha:t=true->a.den Rt R L js ρ)(hb:t=false->b.den Rt R L js ρ):(Tr.ite c a b).den Rt R L js ρ:=⟨t,h,ha,hb⟩
theorem Kw{r:E}(h:R (r.den ρ)):(Tr.ret r).den Rt R L js ρ:=h
theorem V4{es:EL}{j:JK}(h:j (es.den ρ)):(Tr.jmp 0 es).den Rt R L (j::js) ρ:=h
theorem mX{es:EL}{i j:JK}(h:j (es.den ρ)):(Tr.jmp 1 es).den Rt R L (i::j::js) ρ:=h
end
def zzP(cn:Nat)(xs:List AV):Prop:= ∀x∈xs,∃cs,x= .agg cs/\cs.length=cn
theorem zzP.at{cn:Nat}{xs:List AV}(h:zzP cn xs){q:Nat}(hq:q<xs.length):∃cs,xs[q]= .agg cs/\cs.length=cn:=h _ (Ay hq)
section
variable {Rt:Nat->List AV->AV->Prop} {R:AV->Prop} {L:LK} {js:List JK} {ρ:List AV} {α β σ τ:Type}
theorem zEG{x:E}{sz:Nat}{xs:List α}(f:α->AV)(hx:x.den ρ= .sl (xs.map f))(hf:∀y,(f y).cells.length=sz):Cn.den ρ (.issl x sz):=⟨_,hx,by simp[hf]⟩
theorem zDM{x:E}{sz:Nat}{xs:List α}(f:α->AV)(hx:x.den ρ= .sl (xs.map f))(hf:∀y,(f y).cells.length=sz/\ ∀z∈(f y).cells,z.scalar=true):Cn.den ρ (.flatS x sz):=⟨_,hx,by simp only[List.mem_map];rintro _ ⟨y,_,rfl⟩;exact hf y⟩
end
@[simp] def MA(n:Int):AV:= .int .i64 n
@[simp] def QC(n:Int):AV:= .int .u8 n
@[simp] def DP(x:List UInt8):AV:= .str x
attribute [simp] CH SZ AV.sidx AV.aeq AV.leq AV.seq AV.sk AV.dg AV.bytes AV.text
end Go.Proofs.YtalagilebkaegaaGreat
end
section
namespace Go.Proofs.YtalagilebkaegaaGreat
open Go.RowKit
section
variable {P:Program} {w:World}
theorem DV.ij{ts:List TypeId}{vs:List Value}{xs:List AV}{rf lf hs:List Nat}(h:DV P w ts [] [] vs xs rf lf hs):∀(ms:List PM) (lo:List Bool),(∀m∈ms,m= .ro)->DV P w ts ms lo vs xs rf lf hs:=by
 generalize hm:([]:List PM)=m0 at h;generalize hn:([]:List Bool)=n0 at h
 induction h with
 |nil=>intro ms lo _;exact .nil
 |lent h1 _ _ _ _=>subst hn;cases h1
 | @cons t ts ms' lo' v vs x xs f h rf lf hs Bn _ ih=>
  subst hm;subst hn;intro ms lo EW;refine .cons ?_ (ih rfl rfl ms.tail lo.tail λm hm=>EW m (List.mem_of_mem_tail hm));have:ms.headD .ro= .ro:=by cases ms with|nil=>rfl|cons m ms=>exact EW m (by simp)
  rw[this];exact Bn
 |free h1 _ ih=>subst hm;subst hn;intro ms lo EW;exact .free h1 (ih rfl rfl ms.tail lo.tail λm hm=>EW m (List.mem_of_mem_tail hm))
theorem DU.ij{ts:List TypeId}{ms:List PM}{vs:List Value}{Bs:List AV}{f o:List Nat}(h:DU P w ts ms vs Bs f o)(EW:∀m∈ms,m= .ro):DU P w ts [] vs Bs f o:=by
 have hd:∀{ms:List PM},(∀m∈ms,m= .ro)->ms.headD .ro= .ro:=by intro ms h;cases ms with|nil=>rfl|cons m ms=>exact h m (by simp)
 induction h with
 |nil=>exact .nil
 |ro _ _ ih=>exact .ro rfl (ih λm hm=>EW m (List.mem_of_mem_tail hm))
 |va h9 _ _=>rw[hd EW]at h9;cases h9
 |mu h9 _ _ _ _=>rw[hd EW]at h9;cases h9
 |bx h9 _ _ _ _ _ _ _ _=>rw[hd EW]at h9;cases h9
end
noncomputable def oN(f:Nat)(r:AV):Bool:=
 match Tryz.prog.funcs[f]?,B3 f with
 |some fn,some s=>s.b8.all (λm=>match m with| .ro=>true|_=>false)&&(s.ft.isEmpty&& !s.sh)&&(match(Du fn s)with| [t]=> !F0 Tryz.prog t s.res|_=>false)&&NN Tryz.prog fn {b8:=[],res:=[]} r
 |_,_=>false
theorem zzl{f:Nat}{xs:List AV}{r:AV}(h:Co Tryz.prog B3 f xs r)(hp:oN f r=true):Co Tryz.prog B3 (1000000+f) xs r:=by
 unfold oN at hp;split at hp
 ·rename_i fn s hf hs;simp only[Ab,A3]at hp;obtain⟨⟨⟨h1,CA⟩,h2⟩,h3⟩:=hp;obtain⟨CA,dZ⟩:s.ft=[]/\s.sh=false:=by simpa using CA
  have H6:Du fn s=fn.resultTypes.toList:=by simp[Du,dZ]
  have dW:Du fn {b8:=[],res:=[]}=fn.resultTypes.toList:=rfl;rw[H6]at h2;have LQ:∀m∈s.b8,m= .ro:=λm hm=>by
   have:=h1 m hm;split at this
   ·rfl
   ·cases this
  unfold Co at h ⊢;rw[if_pos (KC f s hs)]at h;rw[if_neg (by omega),Nat.add_sub_cancel_left];obtain⟨s',A9,fn',TO,hb,hn,_,hl,_,hc⟩:=h;rw[hs]at A9;cases A9;rw[hf]at TO;cases TO;rw[CA]at hc;refine⟨fn,hf,hb,hn,h3,hl,by simp,λw vs rf lf A9 Ah hd hd2 B6 D1=>(hc w vs rf lf A9 (Ah.ij _ _ LQ) hd hd2 B6 D1).mono ?_⟩;rintro e w' ⟨v,rfl,⟨R,Bs,f1,o1,f2,o2,e1,e2,e3,e4,e5,e6⟩,hm⟩;rw[CA]at e3;refine⟨v,rfl,⟨R,Bs,f1,o1,f2,o2,e1,?_,e3.ij LQ,e4,e5,e6⟩,hm⟩;rw[H6]at e2;rw[dW];unfold KX at e2 ⊢;split at h2
  ·rename_i t ht;rw[ht]at e2 ⊢;simp only at e2 ⊢;unfold DY at e2 ⊢;have h2:F0 Tryz.prog t s.res=false:=by simpa using h2
   rw[if_neg (by rw[h2];simp)]at e2;rw[if_neg (by simp[F0])];exact e2
  ·cases h2
 ·cases hp
section
variable {Rt:Nat->List AV->AV->Prop} {R:AV->Prop} {L:LK} {js:List JK} {ρ:List AV}
theorem zxB{i:EL}{b k:Tr}(hL:KG L)(n:Nat)(st:Nat->List AV)(J:Nat->Prop)(hJ:J 0)(h0:i.den ρ=st 0)(hb:∀q,q<=n->J q-> ∀W:JK,(q<n->J (q+1)->W (st (q+1)))->b.den Rt R L (W::(λus=>k.den Rt R L js (ρ++us))::js) (ρ++st q)):(Tr.loop i b k).den Rt R L js ρ:=by refine zR hL (λm vs=> ∃q,q+m=n/\vs=st q/\J q) (m:=n) ⟨0,by omega,h0,hJ⟩ ?_;rintro m vs ⟨q,hq,rfl,hj⟩;exact hb q (by omega) hj _ λAx OH=>⟨m-1,by omega,q+1,by omega,rfl,OH⟩
end
def P3(cn:Nat):Tr:=
 .cj [] (.dfd (.len (.var 0)))<|
 .loop (.cons (.int .i64 (0)) .nil) (
  .cj [] (.dfd (.bin .lss (.var 2) (.len (.var 0))))<|
  .ite (.bin .lss (.var 2) (.len (.var 0))) (
  .cj [] (.inb (.var 2) (.var 0) cn)<|
  .call [] (.inr (.var 1)) (.cons (.fld (.idx (.var 0) (.var 2)) 0 cn true) .nil)<|
  .ite (.var 3) (
   .ret (.var 2)) (
   .cj [] (.dfd (.bin .add (.var 2) (.int .i64 (1))))<|
   .jmp 0 (.cons (.bin .add (.var 2) (.int .i64 (1))) .nil))) (
  .jmp 1 .nil)) (
  .ret (.int .i64 (-1)))
def oS:Tr:=
 .cj [] (.dfd (.len (.var 0)))<|
 .loop (.cons (.int .i64 (0)) .nil) (
  .cj [] (.dfd (.bin .lss (.var 2) (.len (.var 0))))<|
  .ite (.bin .lss (.var 2) (.len (.var 0))) (
  .cj [] (.inb (.var 2) (.var 0) 1)<|
  .call [] (.inr (.var 1)) (.cons (.fld (.idx (.var 0) (.var 2)) 0 1 false) .nil)<|
  .ite (.var 3) (
   .ret (.var 2)) (
   .cj [] (.dfd (.bin .add (.var 2) (.int .i64 (1))))<|
   .jmp 0 (.cons (.bin .add (.var 2) (.int .i64 (1))) .nil))) (
  .jmp 1 .nil)) (
  .ret (.int .i64 (-1)))
def Fh{α:Type}(p:α->Option Bool):List α->Int->Option Int
 | [],_=>some (-1)
 |x::xs,i=>(p x).bind λb=>if b=true then some i else Fh p xs (i+1)
noncomputable def F7{α:Type}(xs:List α)(p:α->Option Bool):Option Int:=req (xs.length<=9223372036854775806) (Fh p xs 0)
noncomputable def D4{α:Type}(xs:List α)(p:α->Option Bool):Option Bool:=(F7 xs p).bind λi=>some (decide (i>=0))
noncomputable def PR{α:Type}(bytes:Nat)(xs:List α):Option (List α):=req ((xs.length:Int)*bytes<=140737488355328/\(xs.length:Int)<=140737488355328) (some xs)
theorem x5{α:Type}{p:α->Option Bool}{l:List α}{r:Int}{q:Nat}(hq:q<l.length)(h:Fh p (l.drop q) q=some r):∃b,p l[q]=some b/\(b=true->r=q)/\(b=false->Fh p (l.drop (q+1)) ((q+1:Nat):Int)=some r):=by
 rw[Bl hq]at h;obtain⟨b,hb,h⟩:=Ln h;refine⟨b,hb,?_,?_⟩
 ·rintro rfl;simpa using h.symm
 ·rintro rfl;simpa using h
theorem Wn{α:Type}{av:α->AV}{l:List α}{p:α->Option Bool}{cn g:Nat}{caps:List AV}{r:Int}(hs:∀x,∃cs,av x= .agg cs/\cs.length=cn)(h:F7 l p=some r)(hf:∀x b,p x=some b->Co Tryz.prog B3 (1000000+g) (av x::caps) (.bool b)):Den (P3 cn) (.int .i64 r) [.sl (l.map av), .fn g caps]:=by
 obtain⟨hn,h⟩:=F3 h;unfold Den P3;refine Dy (by simp) ?_;refine zxB kM l.length (λq=> [.int .i64 q]) (λq=>Fh p (l.drop q) q=some r) (by simpa using h) (by simp) λq hq hJ W hW=> ?_;by_cases Ax:q<l.length
 ·obtain⟨cs,hc,hl⟩:=hs l[q];obtain⟨b,hb,Gh,Gi⟩:=x5 Ax hJ;refine Dy (by simp[CH]) (F9 (t:=true) (by simp[CH,Ax]) (λ_=> ?_) (by simp));refine Dy (λ_=>⟨.i64,q,l.length,by simp,by omega,by simp,by omega,by simp[Ax,hc,hl]⟩) (lI (r:= .bool b) (λ_=>⟨g,caps,by simp,?_,by simp⟩) ?_)
  ·have:=hf l[q] b hb;rw[hc]at this;simpa[Ax,hc,<-hl]using this
  ·cases b with
   |true=>exact F9 (t:=true) (by simp) (λ_=>Kw (by simp[Gh rfl])) (by simp)
   |false=>refine F9 (t:=false) (by simp) (by simp) λ_=>Dy (by simp[CH]) (V4 ?_);have:=hW Ax (Gi rfl);simpa[CH,CQ (n:=(q:Int)+1) (by omega) (by omega)]using this
 ·have Jc:q=l.length:=by omega
  subst Jc;have hr:r= -1:=by simpa[Fh]using hJ.symm
  refine Dy (by simp[CH]) (F9 (t:=false) (by simp[CH]) (by simp) λ_=>mX ?_);exact Kw (by simp[hr])
theorem zCf{α:Type}{av:α->AV}{l:List α}{p:α->Option Bool}{g:Nat}{caps:List AV}{r:Int}(hs:∀x,(av x).cells=[av x])(h:F7 l p=some r)(hf:∀x b,p x=some b->Co Tryz.prog B3 (1000000+g) (av x::caps) (.bool b)):Den oS (.int .i64 r) [.sl (l.map av), .fn g caps]:=by
 obtain⟨hn,h⟩:=F3 h;unfold Den oS;refine Dy (by simp) ?_;refine zxB kM l.length (λq=> [.int .i64 q]) (λq=>Fh p (l.drop q) q=some r) (by simpa using h) (by simp) λq hq hJ W hW=> ?_;by_cases Ax:q<l.length
 ·obtain⟨b,hb,Gh,Gi⟩:=x5 Ax hJ;refine Dy (by simp[CH]) (F9 (t:=true) (by simp[CH,Ax]) (λ_=> ?_) (by simp));refine Dy (λ_=>⟨.i64,q,l.length,by simp,by omega,by simp,by omega,by simp[Ax,hs]⟩) (lI (r:= .bool b) (λ_=>⟨g,caps,by simp,?_,by simp⟩) ?_)
  ·have:=hf l[q] b hb;simpa[Ax,hs]using this
  ·cases b with
   |true=>exact F9 (t:=true) (by simp) (λ_=>Kw (by simp[Gh rfl])) (by simp)
   |false=>refine F9 (t:=false) (by simp) (by simp) λ_=>Dy (by simp[CH]) (V4 ?_);have:=hW Ax (Gi rfl);simpa[CH,CQ (n:=(q:Int)+1) (by omega) (by omega)]using this
 ·have Jc:q=l.length:=by omega
  subst Jc;have hr:r= -1:=by simpa[Fh]using hJ.symm
  refine Dy (by simp[CH]) (F9 (t:=false) (by simp[CH]) (by simp) λ_=>mX ?_);exact Kw (by simp[hr])
def P2(f:Nat):Tr:=
 .call [] (.inl f) (.cons (.var 0) (.cons (.var 1) .nil))<|
 .cj [] (.dfd (.bin .geq (.var 2) (.int .i64 (0))))<|
 .ret (.bin .geq (.var 2) (.int .i64 (0)))
theorem Wj{α:Type}{l:List α}{p:α->Option Bool}{f:Nat}{x y:AV}{r:Bool}(h:D4 l p=some r)(hf:∀i,F7 l p=some i->Co Tryz.prog B3 f [x,y] (.int .i64 i)):Den (P2 f) (.bool r) [x,y]:=by obtain⟨i,hi,h⟩:=Ln h;unfold Den P2;refine mW (λ_=>by simpa using hf i hi) (Dy (by simp[CH]) (Kw ?_));simp only[Ad]at h;simp[CH,<-h]
def Ws(bytes sz:Nat):Tr:=
 .cj [] (.dfd (.len (.var 0)))<|
 .ch [] (.var 0)<|
 .ite (.var 1) (
  .ret (.lst .nil)) (
  .cj [] (.room (.lst .nil) (.var 0) bytes)<|
  .cj [] (.flatS (.var 0) sz)<|
  .ret (.app (.lst .nil) (.var 0)))
def n8(bytes sz:Nat):Tr:=
 .cj [] (.dfd (.len (.var 0)))<|
 .ch [] (.var 0)<|
 .ite (.var 1) (
  .ret (.lst .nil)) (
  .cj [] (.room (.lst .nil) (.var 0) bytes)<|
  .cj [] (.issl (.var 0) sz)<|
  .ret (.app (.lst .nil) (.var 0)))
theorem lX{α:Type}{av:α->AV}{xs r:List α}{bytes sz:Nat}(hs:∀x,(av x).cells.length=sz/\ ∀z∈(av x).cells,z.scalar=true)(h:PR bytes xs=some r):Den (Ws bytes sz) (.sl (r.map av)) [.sl (xs.map av)]:=by
 obtain⟨hq,h⟩:=F3 h;cases h;unfold Den Ws;refine Dy (by simp) λb hb=> ?_;cases b with
 |true=>have:=hb (by simp) rfl;exact F9 (t:=true) (by simp) (λ_=>Kw (by simpa using this.symm)) (by simp)
 |false=>exact F9 (t:=false) (by simp) (by simp) λ_=>Dy (λ_=>⟨0,xs.length,by simp,by simp,by simpa using hq.1,by simpa using hq.2⟩) (Dy (λ_=>zDM (xs:=xs) av (by simp) hs) (Kw (by simp)))
theorem zx8{α:Type}{av:α->AV}{xs r:List α}{bytes sz:Nat}(hs:∀x,(av x).cells.length=sz)(h:PR bytes xs=some r):Den (n8 bytes sz) (.sl (r.map av)) [.sl (xs.map av)]:=by
 obtain⟨hq,h⟩:=F3 h;cases h;unfold Den n8;refine Dy (by simp) λb hb=> ?_;cases b with
 |true=>have:=hb (by simp) rfl;exact F9 (t:=true) (by simp) (λ_=>Kw (by simpa using this.symm)) (by simp)
 |false=>exact F9 (t:=false) (by simp) (by simp) λ_=>Dy (λ_=>⟨0,xs.length,by simp,by simp,by simpa using hq.1,by simpa using hq.2⟩) (Dy (λ_=>zEG (xs:=xs) av (by simp) hs) (Kw (by simp)))
end Go.Proofs.YtalagilebkaegaaGreat
end
section
namespace Go.Proofs.YtalagilebkaegaaGreat
open Go.ChangeShapes Go.WideShapes Go.ChangeAt Go.RowKit
theorem zBL{P:Program}{w:World}:DV P w [] [] [] [] [] [] [] []:= .nil
theorem yG{P:Program}{w:World}{t:TypeId}{ts:List TypeId}{v:Value}{vs:List Value}{x:AV}{xs:List AV}{f rf:List Nat}(h:Rd w [v] [x] f)(k:DV P w ts [] [] vs xs rf [] []):DV P w (t::ts) [] [] (v::vs) (x::xs) (f++rf) [] []:=
 DV.cons (h:=[]) (hs:=[]) (ms:=[]) (lo:=[]) ⟨h,rfl⟩ k
theorem zBQ{P:Program}{sg:BY}{f:Nat}{fn:Func}{t:TypeId}{xs:List AV}(h:Co P sg f xs (.bool true))(hf:f<1000000){s:G8}(hs:sg f=some s)(CA:s.ft=[])(LQ:∀m∈s.b8,m= .ro)(B5:F0 P t s.res=false)(ID:P.funcs[f]?=some fn)(hr:(Du fn s)=[t])
  {w:World} {vs:List Value} {rf:List Nat} (ha:DV P w fn.params.toList [] [] vs xs rf [] []) (D1:LX.n<=w.heap.size/\LX.K w):
  Calls P f vs.toArray w λe w'=>e= .returned (.bool true)/\Below w.heap.size w w':=by
 unfold Co at h;rw[if_pos hf]at h;obtain⟨s',A9,fn',JN,_,_,_,_,_,hc⟩:=h;rw[hs]at A9;obtain rfl:=Option.some.inj A9;rw[ID]at JN;obtain rfl:=Option.some.inj JN;refine(hc w vs rf [] [] (by rw[CA,AB];exact ha.ij _ _ LQ) (by simp) (by simp) (by simp) ⟨D1.1,D1.2,by simp⟩).mono λe w' ⟨v,he,hp⟩=> ?_;obtain⟨⟨R,bs,f1,o1,f2,o2,hR,AL,_⟩,hm⟩:=hp;have hRt:R= .bool true:=by
  cases bs with
  |nil=>exact hR.symm
  |cons=>cases hR
 subst hRt;rw[hr]at AL;have h2:DY P w' t s.res v (.bool true) f1 o1:=AL;unfold DY at h2;rw[B5]at h2;obtain⟨h3,_⟩:=h2;have:v= .bool true:=by cases h3;rfl
 subst this;exact⟨he,hm.below⟩
section
variable {P:Program} {t:TypeId} {Q:List AV->Prop} {H:Type} {enc:TypeId × Value->H} {w:World} {spare:Nat->Bool} {held:Bool} {v:Value} {d:DataW H} {p:List MemPlace} {r:Reach} {base:Nat}
theorem zDz(hO:HG P t Q)(hc:v.cells= #[v])(h:DataW.Trod enc P w 0 spare held t v d p):∃x f,Rd w [v] [x] f/\Q [x]:=by
 obtain⟨n,h⟩:=h;rw[hc]at h;obtain⟨_,_,xs,f,hr,hq⟩:=hO.2 _ _ _ _ _ _ _ _ h;have hl:=hr.len
 match xs,hl with
 | [x],_=>exact⟨x,f,hr,hq⟩
theorem yL{e:TypeId}(hO:HG P t Q)(ht:P.underlying t=some (.slice e))(hv:Value.okWide P w r base t v)(h:DataW.Trod enc P w 0 spare held t v d p):∃x f,Rd w [v] [x] f/\Q [x]:=by obtain⟨a,l,c,rfl⟩:=okWide_slice ht hv;exact zDz hO rfl h
end
theorem zER{a b:Bool}(ha:a=true)(hb:b=true):(a&&b)=true:=by rw[ha,hb];rfl
def L1(n:Int):Prop:=0<=n/\n<=255
def Xh{α:Type}(ok:α->Prop)(l:List α):Prop:=l.length<=9223372036854775807/\ ∀x∈l,ok x
theorem zF3{n:Int}(h:E9 .u8 n):L1 n:=by unfold E9 at h;simp only[IntKind.wrap,IntKind.bits,IntKind.signed]at h;unfold L1;simp at h;omega
section
variable {P:Program} {t e:TypeId} {α:Type} {ok:α->Prop} {av:α->AV}
theorem zF1(ht:P.underlying t=some (.int .u8))(hc:P.cellsOf t=1):HG P t λxs=> ∃n,L1 n/\xs=[QC n]:=
 (zDc ht hc).mono λ_ ⟨n,h,e⟩=>⟨n,zF3 h,e⟩
theorem zxr:∀{ys:List AV},(∀y∈ys,KL false (λxs=> ∃c,ok c/\xs=[av c]) y)-> ∃l:List α,(∀c∈l,ok c)/\ys=l.map av
 | [],_=>⟨[],by simp,rfl⟩
 |y::ys,h=>by obtain⟨l,hl,rfl⟩:=zxr λz hz=>h z (List.mem_cons_of_mem _ hz);have h0:=h y (List.mem_cons_self ..);simp only[KL,Ba,if_false]at h0;obtain⟨_,c,hk,hc⟩:=h0;exact⟨c::l,by simpa using⟨hk,hl⟩,by simp at hc;simp[hc]⟩
theorem zFK(ht:P.underlying t=some (.slice e))(hc:P.cellsOf t=1)(MI:P.cellsOf e=1)(he:HG P e λxs=> ∃c,ok c/\xs=[av c]):HG P t λxs=> ∃l:List α,Xh ok l/\xs=[.sl (l.map av)]:=
 (zy6 false ht hc he (.inr MI)).mono λ_ ⟨ys,hl,hy,e⟩=>by obtain⟨l,hk,rfl⟩:=zxr hy;exact⟨l,⟨by simpa using hl,hk⟩,e⟩
end
end Go.Proofs.YtalagilebkaegaaGreat
end
section
namespace Go.Proofs.YtalagilebkaegaaGreat
open Go.RowKit
set_option maxRecDepth 100000
structure Ap where
 aj:List UInt8
 bw:List UInt8
 bj:Bool
@[simp] def SP(x:Ap):AV:= .agg [.str x.aj, .str x.bw, .bool x.bj]
structure AG where
 ah:Int
 af:Int
 bh:Int
 aq:List (List UInt8)
 ae:List Ap
@[simp] def D5(x:AG):AV:= .agg [.int .i64 x.ah, .int .i64 x.af, .int .i64 x.bh, .sl (x.aq.map DP), .sl (x.ae.map SP)]
structure Bz where
 ah:Int
 bg:Bool
 af:Int
@[simp] def sH(x:Bz):AV:= .agg [.int .i64 x.ah, .bool x.bg, .int .i64 x.af]
structure Df where
 af:Int
 bw:List UInt8
 bj:Bool
@[simp] def MB(x:Df):AV:= .agg [.int .i64 x.af, .str x.bw, .bool x.bj]
structure Ak where
 aj:List UInt8
 bb:List Df
@[simp] def Ee(x:Ak):AV:= .agg [.str x.aj, .sl (x.bb.map MB)]
structure AQ where
 bk:List Int
 df:Int
 bm:Int
@[simp] def zDV(x:AQ):AV:= .agg [.sl (x.bk.map QC), .int .i64 x.df, .int .u64 x.bm]
structure AE where
 ah:Int
 aq:List (List UInt8)
 ae:List Ap
@[simp] def rD(x:AE):AV:= .agg [.int .i64 x.ah, .sl (x.aq.map DP), .sl (x.ae.map SP)]
structure AP where
 az:Int
 ah:Int
 af:Int
 bh:Int
 aq:List (List UInt8)
 ae:List Ap
 bg:Bool
@[simp] def zFB(x:AP):AV:= .agg [.int .i64 x.az, .int .i64 x.ah, .int .i64 x.af, .int .i64 x.bh, .sl (x.aq.map DP), .sl (x.ae.map SP), .bool x.bg]
structure Ai where
 aw:Int
 ao:List Ak
 ab:List AG
 au:List Bz
@[simp] def rE(x:Ai):AV:= .agg [.int .i64 x.aw, .sl (x.ao.map Ee), .sl (x.ab.map D5), .sl (x.au.map sH)]
structure An where
 bc:List (List UInt8)
 ar:List Ai
 ak:List AE
@[simp] def zEQ(x:An):AV:= .agg [.sl (x.bc.map DP), .sl (x.ar.map rE), .sl (x.ak.map rD)]
structure CB where
 az:Int
 ah:Int
 br:Int
 af:Int
@[simp] def zAD(x:CB):AV:= .agg [.int .i64 x.az, .int .i64 x.ah, .int .i64 x.br, .int .i64 x.af]
end Go.Proofs.YtalagilebkaegaaGreat
end
section
namespace Go.Proofs.YtalagilebkaegaaGreat
open Go.ChangeShapes Go.WideShapes Go.ChangeAt Go.RowKit
set_option maxRecDepth 100000
theorem op1:HG Tryz.prog 5 λxs=> ∃n,L1 n/\xs=[QC n]:=zF1 Tryz.underlying5 (by kernel_rfl)
theorem qS:HG Tryz.prog 22 λxs=> ∃l:List Int,Xh L1 l/\xs=[.sl (l.map QC)]:=zFK Tryz.underlying22 (by kernel_rfl) (by kernel_rfl) op1
end Go.Proofs.YtalagilebkaegaaGreat
end
section
namespace Go.Proofs.YtalagilebkaegaaGreat
open Go.RowKit
set_option maxRecDepth 100000
def K9{α:Type}(p:α->Option Bool):List α->Option (List α)
 | []=>some []
 |x::xs=>(p x).bind λb=>(K9 p xs).bind λr=>some (if b=true then r else x::r)
noncomputable def Pw{α:Type}(xs:List α)(p:α->Option Bool):Option (List α):=req (xs.length<=9223372036854775806) (K9 p xs)
theorem lA{α:Type}{p:α->Option Bool}(q:α->Bool):∀{l:List α},(∀x∈l,p x=some (q x))->K9 p l=some (l.filter λx=> !q x)
 | [],_=>rfl
 |x::l,h=>by have e:=lA (p:=p) q (l:=l) λy hy=>h y (List.mem_cons_of_mem _ hy);simp only[K9,h x (by simp),e,Aa,List.filter_cons];cases q x<;>rfl
theorem zuE{α:Type}{p:α->Option Bool}{l r:List α}{q:Nat}(hq:q<l.length)(h:K9 p (l.drop q)=some r):∃b r',p l[q]=some b/\K9 p (l.drop (q+1))=some r'/\r=if b=true then r' else l[q]::r':=by rw[Bl hq]at h;obtain⟨b,hb,h⟩:=Ln h;obtain⟨r',hr,h⟩:=Ln h;exact⟨b,r',hb,hr,by simpa using h.symm⟩
theorem wA{α:Type}{p:α->Option Bool}:∀{l r:List α} (i:Int),K9 p l=some r->(Fh p l i=some (-1)/\r=l)\/ ∃k r',k<l.length/\Fh p l i=some (i+(k:Nat))/\K9 p (l.drop (k+1))=some r'/\r=l.take k++r'
 | [],r,i,h=>by cases h;exact .inl ⟨rfl,rfl⟩
 |x::l,r,i,h=>by
  obtain⟨b,hb,h⟩:=Ln h;obtain⟨r1,hr,h⟩:=Ln h;cases b with
  |true=>
   have:r1=r:=by simpa using h
   subst this;exact .inr ⟨0,r1,by simp,by simp[Fh,hb],by simpa using hr,by simp⟩
  |false=>
   have:r=x::r1:=by simpa using h.symm
   subst this;rcases wA (i+1) hr with⟨h1,rfl⟩|⟨k,r',h1,h2,h3,rfl⟩
   ·exact .inl ⟨by simp[Fh,hb,h1],rfl⟩
   ·exact .inr ⟨k+1,r',by simp;omega,by simp[Fh,hb,h2];omega,by simpa using h3,by simp⟩
def sU(ck:List Cn)(k:Tr):Tr:=ck.foldr (λc k=> .cj [] c k) k
section
variable {Rt:Nat->List AV->AV->Prop} {R:AV->Prop} {L:LK} {js:List JK} {ρ:List AV}
theorem zxx:∀{ck:List Cn} {k:Tr},(∀c∈ck,c.den ρ)->k.den Rt R L js ρ->(sU ck k).den Rt R L js ρ
 | [],_,_,hk=>hk
 |c::ck,k,h,hk=>⟨λ_=>h c (by simp),zxx (λq hq=>h q (by simp[hq])) hk⟩
theorem zBE{t k:Tr}{K:List AV->Prop}(hK:∀vs,K vs->k.den Rt R L js (ρ++vs))(ht:∀j:JK,(∀vs,K vs->j vs)->t.den Rt R L (j::js) ρ):(Tr.join t k).den Rt R L js ρ:=ht _ hK
end
def Xo(fi cn:Nat)(g:Bool)(X:E)(ck:List Cn)(z:E):Tr:=
 .call [] (.inl fi) (.cons (.var 0) (.cons (.var 1) .nil))<|
 .cj [] (.dfd (.bin .eql (.var 2) (.int .i64 (-1))))<|
 .ite (.bin .eql (.var 2) (.int .i64 (-1))) (
  .ret (.var 0)) (
  .cj [] (.dfd (.bin .add (.var 2) (.int .i64 (1))))<|
  .loop (.cons (.var 2) (.cons (.bin .add (.var 2) (.int .i64 (1))) (.cons (.var 0) .nil))) (
  .cj [] (.dfd (.len (.var 5)))<|
  .cj [] (.dfd (.bin .lss (.var 4) (.len (.var 5))))<|
  .ite (.bin .lss (.var 4) (.len (.var 5))) (
   .join (
   .cj [] (.inb (.var 4) (.var 5) cn)<|
   sU ck<|
   .call [] (.inr (.var 1)) (.cons X .nil)<|
   .cj [] (.dfd (.not (.var 6)))<|
   .ite (.not (.var 6)) (
    .cj [] (.inb (.var 3) (.var 5) cn)<|
    .cj [] (.flat X cn g)<|
    .cj [] (.flat (.fld (.idx (.var 5) (.var 3)) 0 cn g) cn g)<|
    .cj [] (.dfd (.bin .add (.var 3) (.int .i64 (1))))<|
    .jmp 0 (.cons (.bin .add (.var 3) (.int .i64 (1))) (.cons (.set (.var 5) (.var 3) (.put (.idx (.var 5) (.var 3)) 0 X g)) .nil))) (
    .jmp 0 (.cons (.var 3) (.cons (.var 5) .nil)))) (
   .cj [] (.dfd (.bin .add (.var 4) (.int .i64 (1))))<|
   .jmp 0 (.cons (.var 6) (.cons (.bin .add (.var 4) (.int .i64 (1))) (.cons (.var 7) .nil))))) (
   .jmp 1 (.cons (.var 3) (.cons (.var 5) .nil)))) (
  .cj [] (.win (.var 4) (.var 3) (.len (.var 4)))<|
  .cj [] (.win (.var 4) (.var 3) (.len (.var 4)))<|
  .cj [] (.dfd (.bin .sub (.len (.var 4)) (.var 3)))<|
  .cj [] (.win (.app (.win (.var 4) (.int .i64 (0)) (.var 3)) (.rep (.bin .sub (.len (.var 4)) (.var 3)) z)) (.int .i64 (0)) (.var 3))<|
  .ret (.win (.app (.win (.var 4) (.int .i64 (0)) (.var 3)) (.rep (.bin .sub (.len (.var 4)) (.var 3)) z)) (.int .i64 (0)) (.var 3))))
theorem zyU{α:Type}{av:α->AV}{l r:List α}{p:α->Option Bool}{fi cn g9:Nat}{g:Bool}{X z:E}{ck:List Cn}{caps:List AV}
  (hs:∀x,(av x).cells.length=cn/\(∀z∈(av x).cells,z.scalar=true)/\(g=true-> ∃cs,av x= .agg cs)/\(g=false->(av x).scalar=true)) (hcn:0<cn)
  (hX:∀(a b c d:AV) (j:Nat) (ys:List AV) (x:α) (tl:List AV),ys[j]?=some (av x)->X.den ([a,b,c,d, .int .i64 j, .sl ys]++tl)=av x)
  (IB:∀(a b c d:AV) (j:Nat) (ys:List AV) (x:α),ys[j]?=some (av x)-> ∀q∈ck,q.den [a,b,c,d, .int .i64 j, .sl ys])
  (h:Pw l p=some r) (hi:∀i,F7 l p=some i->Co Tryz.prog B3 fi [.sl (l.map av), .fn g9 caps] (.int .i64 i))
  (hf:∀x b,p x=some b->Co Tryz.prog B3 (1000000+g9) (av x::caps) (.bool b)):Den (Xo fi cn g X ck z) (.sl (r.map av)) [.sl (l.map av), .fn g9 caps]:=by
 obtain⟨hn,h⟩:=F3 h;unfold Den Xo;have LN:∀x y:α,(av y).dg 0 (av x) g=av x:=by
  intro x y;cases g with
  |false=>rfl
  |true=>
   obtain⟨cs,BD⟩:=(hs x).2.2.1 rfl;have e1:=(hs x).1;have e2:=(hs y).1;have e3:(av x).cells=cs:=by rw[BD];rfl
   have e4:(av y).cells.drop (0+cs.length)=[]:=List.drop_eq_nil_of_le (by rw[e2,<-e1,e3];omega);show AV.agg ((av y).cells.take 0++(av x).cells++(av y).cells.drop (0+(av x).cells.length))=av x;rw[e3,e4,AB,List.take_zero,List.nil_append,BD]
 have cD:∀x:α,(av x).fld 0 cn g=av x:=by
  intro x;cases g with
  |false=>have:=zvF ((hs x).2.2.2 rfl);simp[AV.fld,this]
  |true=>obtain⟨cs,BD⟩:=(hs x).2.2.1 rfl;have e1:=(hs x).1;rw[BD]at e1 ⊢;simp only[AV.fld,if_true,AV.cells]at e1 ⊢;rw[List.drop_zero,List.take_of_length_le (by omega)]
 have B7:∀(e:E) (ρ:List AV) (x:α),e.den ρ=av x->Cn.den ρ (.flat e cn g):=λe ρ x he=>by
  show(e.den ρ).cells.length=cn/\(∀y∈(e.den ρ).cells,y.scalar=true)/\(g=true-> ∃cs,e.den ρ= .agg cs)/\(g=false->(e.den ρ).scalar=true)
  rw[he];exact hs x
 rcases wA 0 h with⟨h1,rfl⟩|⟨k0,r0,Ql,h1,h2,rfl⟩
 ·refine mW (r:= .int .i64 (-1)) (λ_=>hi _ (by unfold F7;rw[show req (r.length<=9223372036854775806) (Fh p r 0)=Fh p r 0 from if_pos hn];exact h1)) ?_;exact Dy (by simp[CH]) (F9 (t:=true) (by simp[CH]) (λ_=>Kw (by simp)) (by simp))
 ·refine mW (r:= .int .i64 k0) (λ_=>hi _ (by unfold F7;rw[show req (l.length<=9223372036854775806) (Fh p l 0)=Fh p l 0 from if_pos hn,h1];simp)) ?_;have hw:IntKind.i64.wrap ((k0:Int)+1)=k0+1:=CQ (by omega) (by omega);refine Dy (by simp[CH]) (F9 (t:=false) (by simp[CH];try omega) (by simp) λ_=>Dy (by simp[CH]) ?_);refine zR kM (λm vs=> ∃(j:Nat) (K zs r':List α),j+m=l.length/\vs=[.int .i64 K.length, .int .i64 j, .sl (zs.map av)]/\K.length<j/\zs.length=l.length/\zs.take K.length=K/\zs.drop j=l.drop j/\K9 p (l.drop j)=some r'/\l.take k0++r0=K++r') (m:=l.length-(k0+1))
   ⟨k0+1,l.take k0,l,r0,by omega,?_,by simp;omega,rfl,by simp[Nat.min_eq_left (Nat.le_of_lt Ql)],rfl,h2,rfl⟩ ?_
  ·simp[CH,hw,Nat.min_eq_left (Nat.le_of_lt Ql)]
  rintro m vs ⟨j,K,zs,r',hj,rfl,hKj,Uv,Uw,eQ,CJ,AL⟩;refine Dy (by simp) (Dy (by simp[CH]) ?_);by_cases Ax:j<l.length
  ·refine F9 (t:=true) (by simp[CH,Uv,Ax]) (λ_=> ?_) (by simp);obtain⟨b,r2,hb,DR,qE⟩:=zuE Ax CJ;have qO:zs[j]?=some l[j]:=by
    have:=congrArg (λL=>L[0]?) eQ;simpa[Ax]using this
   have GV:(zs.map av)[j]?=some (av l[j]):=by simp[qO]
   have Tp:K.length<zs.length:=by omega
   have hwj:IntKind.i64.wrap ((j:Int)+1)=j+1:=CQ (by omega) (by omega);have hwK:IntKind.i64.wrap ((K.length:Int)+1)=K.length+1:=CQ (by omega) (by omega);refine zBE (K:=λus=> ∃(K' zs':List α),us=[.int .i64 K'.length, .sl (zs'.map av)]/\K'.length<j+1/\zs'.length=l.length/\zs'.take K'.length=K'/\zs'.drop (j+1)=l.drop (j+1)/\l.take k0++r0=K'++r2) ?_ ?_
   ·rintro us ⟨K',zs',rfl,a1,a2,a3,a4,a5⟩;refine Dy (by simp[CH]) (V4 ⟨m-1,by omega,j+1,K',zs',r2,by omega,?_,a1,a2,a3,a4,DR,a5⟩);simp[CH,hwj]
   ·intro J hJ;refine Dy (λ_=>⟨.i64,j,zs.length,by simp,by omega,by simp,by omega,?_⟩) (zxx (IB _ _ _ _ j (zs.map av) _ GV) (lI (r:= .bool b) (λ_=>⟨g9,caps,by simp,?_,by simp⟩) ?_))
    ·simp[AV.nth,qO,(hs l[j]).1]
    ·have e1:=hX (.sl (l.map av)) (.fn g9 caps) (.int .i64 k0) (.int .i64 K.length) j (zs.map av) l[j] [] GV;rw[AB]at e1;show Co Tryz.prog B3 (1000000+g9) ([X.den [.sl (l.map av), .fn g9 caps, .int .i64 k0, .int .i64 K.length, .int .i64 j, .sl (zs.map av)]]++caps) (.bool b);rw[e1];exact hf _ _ hb
    ·refine Dy (by simp) ?_;have e2:=hX (.sl (l.map av)) (.fn g9 caps) (.int .i64 k0) (.int .i64 K.length) j (zs.map av) l[j] [.bool b] GV;cases b with
     |true=>refine F9 (t:=false) (by simp) (by simp) λ_=>V4 (hJ _ ⟨K,zs,by simp,by omega,Uv,Uw,?_,by rw[AL,qE];simp⟩);have:=congrArg (List.drop 1) eQ;simpa[List.drop_drop]using this
     |false=>
      refine F9 (t:=true) (by simp) (λ_=> ?_) (by simp);obtain⟨zk,Ux⟩:∃zk,zs[K.length]?=some zk:=⟨zs[K.length],by simp[Tp]⟩
      have e3:(E.idx (.var 5) (.var 3)).den ([AV.sl (l.map av), .fn g9 caps, .int .i64 k0, .int .i64 K.length, .int .i64 j, .sl (zs.map av)]++ [.bool false])=av zk:=by simp[AV.nth,Ux]
      refine Dy (λ_=>⟨.i64,K.length,zs.length,by simp,by omega,by simp,by omega,?_⟩) (Dy (λ_=>B7 _ _ _ e2) (Dy (λ_=>B7 _ _ zk ?_) (Dy (by simp[CH]) (V4 (hJ _ ⟨K++ [l[j]],zs.set K.length l[j],?_,by simp;omega,by simpa using Uv,?_,?_,by rw[AL,qE];simp⟩)))))
      ·simp[AV.nth,Ux,(hs zk).1]
      ·exact(congrArg (λy=>AV.fld y 0 cn g) e3).trans (cD zk)
      ·have e4:(E.set (.var 5) (.var 3) (.put (.idx (.var 5) (.var 3)) 0 X g)).den ([AV.sl (l.map av), .fn g9 caps, .int .i64 k0, .int .i64 K.length, .int .i64 j, .sl (zs.map av)]++ [.bool false])= .sl ((zs.set K.length l[j]).map av):=by
        show AV.dd _ _ (AV.dg ((E.idx (.var 5) (.var 3)).den _) 0 (X.den _) g)=_;rw[e3,e2,LN];simp[AV.dd,List.map_set]
       show EL.den _ (.cons (.bin .add (.var 3) (.int .i64 1)) (.cons (.set (.var 5) (.var 3) (.put (.idx (.var 5) (.var 3)) 0 X g)) .nil))=_;simp only[EL.den];have e5:(E.bin .add (.var 3) (.int .i64 1)).den ([AV.sl (l.map av), .fn g9 caps, .int .i64 k0, .int .i64 K.length, .int .i64 j, .sl (zs.map av)]++ [.bool false])= .int .i64 ((K++ [l[j]]).length:Int):=by simp[CH,hwK]
       congr 1;congr 1
      ·rw[AH,AS,List.take_add_one,List.take_set_of_le (AN _),Uw];simp[Tp]
      ·rw[List.drop_set_of_lt (by omega)];have:=congrArg (List.drop 1) eQ;simpa[List.drop_drop]using this
  ·have hje:j=l.length:=by omega
   subst hje;refine F9 (t:=false) (by simp[CH,Uv]) (by simp) λ_=>mX ?_;have Jd:r'=[]:=by rw[List.drop_eq_nil_of_le (AN _)]at CJ;exact(by simpa[K9]using CJ.symm)
   subst Jd;rw[AL,AB];have Ut:IntKind.i64.wrap ((zs.length:Int)-K.length)=zs.length-K.length:=CQ (by omega) (by omega);have d3:(E.var 3).den ([AV.sl (l.map av),AV.fn g9 caps]++ [AV.int .i64 (k0:Int)]++ [AV.int .i64 (K.length:Int),AV.sl (zs.map av)])= .int .i64 K.length:=by simp
   have d4:(E.var 4).den ([AV.sl (l.map av),AV.fn g9 caps]++ [AV.int .i64 (k0:Int)]++ [AV.int .i64 (K.length:Int),AV.sl (zs.map av)])= .sl (zs.map av):=by simp
   have dm:(E.bin .sub (.len (.var 4)) (.var 3)).den ([AV.sl (l.map av),AV.fn g9 caps]++ [AV.int .i64 (k0:Int)]++ [AV.int .i64 (K.length:Int),AV.sl (zs.map av)])= .int .i64 ((zs.length:Int)-K.length):=by simp[CH,Ut]
   have IM:Cn.den ([AV.sl (l.map av),AV.fn g9 caps]++ [AV.int .i64 (k0:Int)]++ [AV.int .i64 (K.length:Int),AV.sl (zs.map av)]) (.win (.var 4) (.var 3) (.len (.var 4))):=⟨.i64,K.length, .i64,zs.length,zs.length,d3,by simp,by rw[d4];simp,by omega,by omega,by omega⟩
   have dapp:(E.app (.win (.var 4) (.int .i64 (0)) (.var 3)) (.rep (.bin .sub (.len (.var 4)) (.var 3)) z)).den ([AV.sl (l.map av),AV.fn g9 caps]++ [AV.int .i64 (k0:Int)]++ [AV.int .i64 (K.length:Int),AV.sl (zs.map av)])= .sl ((zs.map av).take K.length++List.replicate (zs.length-K.length) (z.den ([AV.sl (l.map av),AV.fn g9 caps]++ [AV.int .i64 (k0:Int)]++ [AV.int .i64 (K.length:Int),AV.sl (zs.map av)]))):=by show AV.app (AV.win ((E.var 4).den _) (.int .i64 0) ((E.var 3).den _)) (AV.rep ((E.bin .sub (.len (.var 4)) (.var 3)).den _) _)=_;rw[d3,d4,dm];simp only[AV.win,AV.rep,AV.app,CV,Int.toNat_zero,List.drop_zero];congr 3;omega
   refine Dy (λ_=>IM) (Dy (λ_=>IM) (Dy (λ_=>λhu=>by have:=dm.symm.trans hu;simp at this) (Dy (λ_=>⟨.i64,0, .i64,K.length,zs.length,rfl,d3,?_,by omega,by omega,by omega⟩) (Kw ?_))))
   ·refine(congrArg AV.len dapp).trans ?_;simp only[AV.len,AH,Ar,List.length_map,List.length_replicate];congr 1;omega
   ·refine(congrArg (λy=>AV.win y (.int .i64 0) (.int .i64 K.length)) dapp).trans ?_;simp only[AV.win,CV,Int.toNat_zero,List.drop_zero];rw[List.take_append_of_le_length (by simp;omega),List.take_take,Nat.min_self,<-List.map_take,Uw]
abbrev RtS:Nat->List AV->AV->Prop:=Co Tryz.prog B3
@[reducible] def Qz:Nat->Type
 |0=>Ap
 |1=>AG
 |2=>Bz
 |3=>Df
 |4=>Ak
 |5=>AQ
 |6=>AE
 |7=>AP
 |8=>Ai
 |9=>An
 |10=>CB
 |_+11=>Unit
@[reducible] def Xv:Nat->List Ty
 |0=> [.s, .s, .b]
 |1=> [.i .i64, .i .i64, .i .i64, .l .s, .l (.st 0)]
 |2=> [.i .i64, .b, .i .i64]
 |3=> [.i .i64, .s, .b]
 |4=> [.s, .l (.st 3)]
 |5=> [.l (.i .u8), .i .i64, .i .u64]
 |6=> [.i .i64, .l .s, .l (.st 0)]
 |7=> [.i .i64, .i .i64, .i .i64, .i .i64, .l .s, .l (.st 0), .b]
 |8=> [.i .i64, .l (.st 4), .l (.st 1), .l (.st 2)]
 |9=> [.l .s, .l (.st 8), .l (.st 6)]
 |10=> [.i .i64, .i .i64, .i .i64, .i .i64]
 |_+11=> []
def O5:∀n,Qz n->AV
 |0,x=>SP x
 |1,x=>D5 x
 |2,x=>sH x
 |3,x=>MB x
 |4,x=>Ee x
 |5,x=>zDV x
 |6,x=>rD x
 |7,x=>zFB x
 |8,x=>rE x
 |9,x=>zEQ x
 |10,x=>zAD x
 |_+11,_=> .agg []
def fT:∀n,Qz n->HL Qz (Xv n)
 |0,x=>(x.aj,x.bw,x.bj,())
 |1,x=>(x.ah,x.af,x.bh,x.aq,x.ae,())
 |2,x=>(x.ah,x.bg,x.af,())
 |3,x=>(x.af,x.bw,x.bj,())
 |4,x=>(x.aj,x.bb,())
 |5,x=>(x.bk,x.df,x.bm,())
 |6,x=>(x.ah,x.aq,x.ae,())
 |7,x=>(x.az,x.ah,x.af,x.bh,x.aq,x.ae,x.bg,())
 |8,x=>(x.aw,x.ao,x.ab,x.au,())
 |9,x=>(x.bc,x.ar,x.ak,())
 |10,x=>(x.az,x.ah,x.br,x.af,())
 |_+11,_=>()
def qT:∀n,HL Qz (Xv n)->Qz n
 |0,x=>⟨x.1,x.2.1,x.2.2.1⟩
 |1,x=>⟨x.1,x.2.1,x.2.2.1,x.2.2.2.1,x.2.2.2.2.1⟩
 |2,x=>⟨x.1,x.2.1,x.2.2.1⟩
 |3,x=>⟨x.1,x.2.1,x.2.2.1⟩
 |4,x=>⟨x.1,x.2.1⟩
 |5,x=>⟨x.1,x.2.1,x.2.2.1⟩
 |6,x=>⟨x.1,x.2.1,x.2.2.1⟩
 |7,x=>⟨x.1,x.2.1,x.2.2.1,x.2.2.2.1,x.2.2.2.2.1,x.2.2.2.2.2.1,x.2.2.2.2.2.2.1⟩
 |8,x=>⟨x.1,x.2.1,x.2.2.1,x.2.2.2.1⟩
 |9,x=>⟨x.1,x.2.1,x.2.2.1⟩
 |10,x=>⟨x.1,x.2.1,x.2.2.1,x.2.2.2.1⟩
 |_+11,_=>()
theorem zEr:∀n x,O5 n x= .agg (It O5 (Xv n) (fT n x))
 |0,_=>rfl
 |1,_=>rfl
 |2,_=>rfl
 |3,_=>rfl
 |4,_=>rfl
 |5,_=>rfl
 |6,_=>rfl
 |7,_=>rfl
 |8,_=>rfl
 |9,_=>rfl
 |10,_=>rfl
 |_+11,_=>rfl
theorem zDg:∀n h,fT n (qT n h)=h
 |0,_=>rfl
 |1,_=>rfl
 |2,_=>rfl
 |3,_=>rfl
 |4,_=>rfl
 |5,_=>rfl
 |6,_=>rfl
 |7,_=>rfl
 |8,_=>rfl
 |9,_=>rfl
 |10,_=>rfl
 |_+11,_=>rfl
@[reducible] def Da:I6:=⟨RtS,Qz,O5,Xv,fT,qT,zEr,zDg⟩
abbrev FS:=FN Da
noncomputable def eV(tb:List FS)(hs:List JM)(o:Option Tr)(ps:List PT)(r:RT)(xs:HP Da.car ps)(hp:I5 Da ps xs):Option (Iw Da.car r):=match o with
 |some t=>CL tb 100000 (Qw r) t hs (Xk ps xs hp) [] []
 |none=>none
theorem zFq{f:Nat}{ps:List PT}{r:RT}{φ:HP Da.car ps->Option (Iw Da.car r)}(tb:List FS)(hs:List JM)(h:∀xs hp,eV tb hs (UI Tryz.prog B3 f) ps r xs hp=φ xs)(hk:∀xs y,XC Tryz.prog B3 f (Gc Da ps xs) (GG Da r y)=true)(xs:HP Da.car ps)(y:Iw Da.car r)(hp:I5 Da ps xs)(e:φ xs=some y):Da.Rt f (Gc Da ps xs) (GG Da r y):=by
 rw[<-h xs hp]at e;unfold eV at e;split at e
 ·rename_i t ht;refine Ga ht (hk xs y) ?_;unfold Den;rw[<-zz3 ps xs hp];exact E8 tb 100000 (fa:=[]) (λ_ h=>nomatch h) (λ_ h=>nomatch h) (λv hv=>oJ r hv) .nil e
 ·cases e
noncomputable def Aq(f:Nat)(ps:List PT)(r:RT)(φ:HP Da.car ps->Option (Iw Da.car r))(tb:List FS)(hs:List JM)(h:∀xs hp,eV tb hs (UI Tryz.prog B3 f) ps r xs hp=φ xs:=by intro _ _;kernel_rfl)(hk:∀xs y,XC Tryz.prog B3 f (Gc Da ps xs) (GG Da r y)=true:=by intro _ _;kernel_rfl):FS:=
 ⟨f,ps,r,φ,λxs y hp e=>zFq tb hs h hk xs y hp e,false,λh=>by cases h⟩
noncomputable def Ho(d:FS)(h:∀y,oN d.f (GG Da d.r y)=true):FS:=
 ⟨d.f,d.ps,d.r,d.φ,d.ok,true,λ_ xs y hx e=>zzl (d.ok xs y hx e) (h y)⟩
noncomputable def Ed(f:Nat)(ps:List PT)(r:RT)(φ:HP Da.car ps->Option (Iw Da.car r))(ok:∀xs y,I5 Da ps xs->φ xs=some y->Da.Rt f (Gc Da ps xs) (GG Da r y)):FS:=⟨f,ps,r,φ,ok,false,λh=>by cases h⟩
abbrev RM(s k:Int):Prop:=s*k<=140737488355328/\s<=140737488355328
noncomputable def zFZ{α:Type}(f:α->Option α)(a0:List α)(v1:Int)(v2:List α):Option ((Int × List α) ⊕ Option (List α)):=
 if(decide (v1<(a0.length:Int)))then
  (getI a0 v1).bind λy3=>
  (f y3).bind λv4=>
  (getI v2 v1).bind λ_=>
  some (.inl ((IntKind.i64.wrap (v1+1)),(v2.set (v1).toNat v4)))
 else
  some (.inr (some v2))
noncomputable def toL{α:Type}(f:α->Option α)(d:α)(b:Int)(a0:List α):Option (List α):=
 req (0<=(a0.length:Int)/\(a0.length:Int)*b<=140737488355328/\(a0.length:Int)<=140737488355328)<|
 Az (λs:Int × List α=>zFZ f a0 s.1 s.2) (0,(List.replicate ((a0.length:Int)).toNat d))
end Go.Proofs.YtalagilebkaegaaGreat
end
section
namespace Go.Proofs.YtalagilebkaegaaGreat
open Go.RowKit
theorem DV.rd{P:Program}{w:World}{ts:List TypeId}{ms:List PM}{lo:List Bool}{vs:List Value}{xs:List AV}{rf lf hs:List Nat}(h:DV P w ts ms lo vs xs rf lf hs):lo=[]->(∀m∈ms,m= .ro)->Rd w vs xs rf/\hs=[]:=by
 induction h with
 |nil=>intro _ _;exact⟨.nil,rfl⟩
 |lent h1 _ _ _ _=>intro BT;subst BT;cases h1
 | @cons t ts ms lo v vs x xs f h rf lf hs Bn _ ih=>
  intro BT EW;subst BT;obtain⟨h1,rfl⟩:=ih rfl λm hm=>EW m (List.mem_of_mem_tail hm);have LQ:ms.headD .ro= .ro:=by
   cases ms with
   |nil=>rfl
   |cons m ms=>exact EW m (by simp)
  rw[LQ]at Bn;obtain⟨h2,h3⟩:Rd w [v] [x] f/\h=[]:=Bn;subst h3;exact⟨by simpa using h2.app h1,rfl⟩
 |free h1 _ ih=>intro BT EW;subst BT;obtain⟨h2,rfl⟩:=ih rfl λm hm=>EW m (List.mem_of_mem_tail hm);exact⟨by simpa using h1.app h2,rfl⟩
theorem DU.iz{P:Program}{w:World}:∀{ts:List TypeId} {ms:List PM} {vs:List Value},vs.length=ts.length->(∀m∈ms,m= .ro)->DU P w ts ms vs [] [] []
 | [],_,vs,_,_=> .nil
 |t::ts,ms,[],h,_=>by simp at h
 |t::ts,ms,v::vs,h,EW=>by
  refine .ro ?_ (DU.iz (by simpa using h) λm hm=>EW m (List.mem_of_mem_tail hm));cases ms with
  |nil=>rfl
  |cons m ms=>exact EW m (by simp)
def fX(P:Program)(sg:BY)(f np:Nat)(r:AV):Bool:=
 match P.funcs[f]?,sg f with
 |some fn,some s=>fn.body.isSome&& !(fn.name== "runtime.NumGoroutine")&&NN P fn s r&&s.b8.all (λm=>match m with| .ro=>true|_=>false)&&fn.params.size==np&&fn.nfree==0&&(s.ft.isEmpty&&s.lo.isEmpty)&&(match(Du fn s)with| [t]=> !F0 P t s.res|_=>false)
 |_,_=>false
theorem zBF{f:Nat}{xs:List AV}{r:AV}(hk:fX Tryz.prog B3 f xs.length r=true)(hc:∀(w:World) (vs:List Value) (rf:List Nat),LX.K w->Rd w vs xs rf->Calls Tryz.prog f vs.toArray w λe w'=>Mod [] w w'/\ ∃v f1,e= .returned v/\Rd w' [v] [r] f1/\ ∀b∈f1,b∈rf\/w.heap.size<=b):Co Tryz.prog B3 f xs r:=by
 unfold fX at hk;split at hk
 ·rename_i fn s hf hs;simp only[Ab,Bc,AM,A3]at hk;obtain⟨⟨⟨⟨⟨⟨⟨h1,h2⟩,h3⟩,h4⟩,h5⟩,h6⟩,CA⟩,h7⟩:=hk;obtain⟨CA,BT⟩:s.ft=[]/\s.lo=[]:=by simpa using CA
  have LQ:∀m∈s.b8,m= .ro:=λm hm=>by
   have:=h4 m hm;split at this
   ·rfl
   ·cases this
  unfold Co;rw[if_pos (KC f s hs)];refine⟨s,hs,fn,hf,h1,h2,h3,by omega,by simp[CA],λw vs rf lf A9 Ah hd _ B6 D1=> ?_⟩;obtain⟨hr,rfl⟩:=Ah.rd BT LQ;refine(hc w vs rf D1.2.1 hr).mono ?_;rintro e w' ⟨hm,v,f1,rfl,hv,hb⟩;refine⟨v,rfl,⟨⟨r,[],f1,[],[],[],rfl,?_,DU.iz ?_ LQ,by simp,by simp,λb Cl=>⟨by simp,?_⟩⟩,hm⟩⟩
  ·unfold KX;split at h7
   ·rename_i t ht;rw[ht];show DY Tryz.prog w' t s.res v r f1 [];unfold DY;rw[if_neg (by rw[Bool.not_eq_true];simpa using h7)];exact⟨hv,rfl⟩
   ·cases h7
  ·rw[hr.len];simp[CA];omega
  ·rcases hb b (by simpa using Cl)with h|h
   ·exact .inl h
   ·exact .inr (.inr h)
 ·cases hk
theorem zC8{f:Nat}{xs:List AV}{r:AV}(hk:fX Tryz.prog B3 f xs.length r=true)(hc:∀(w:World) (vs:List Value) (rf:List Nat),Rd w vs xs rf->Calls Tryz.prog f vs.toArray w λe w'=>Mod [] w w'/\ ∃v f1,e= .returned v/\Rd w' [v] [r] f1/\ ∀b∈f1,b∈rf\/w.heap.size<=b):Co Tryz.prog B3 f xs r:=
 zBF hk λw vs rf _ hr=>hc w vs rf hr
theorem eY{w:World}{s:List UInt8}{vs:List Value}{xs:List AV}{f:List Nat}(h:Rd w vs (.str s::xs) f):∃(b:ByteArray) (us:List Value),vs= .string b::us/\b.data.toList=s/\b.size<=9223372036854775807/\Rd w us xs f:=by
 cases h with
 |str a h=>exact⟨_,_,rfl,rfl,a,h⟩
theorem NU{w:World}{k:IntKind}{n:Int}{vs:List Value}{xs:List AV}{f:List Nat}(h:Rd w vs (.int k n::xs) f):∃us:List Value,vs= .int k n::us/\E9 k n/\Rd w us xs f:=by
 cases h with
 |int a h=>exact⟨_,rfl,a,h⟩
theorem NK{w:World}{vs:List Value}{f:List Nat}(h:Rd w vs [] f):vs=[]/\f=[]:=by cases h;exact⟨rfl,rfl⟩
end Go.Proofs.YtalagilebkaegaaGreat
end
section
namespace Go.Proofs
open Go.Shelf
def Tryz.kp:Go.Shelf.Ren:=⟨λ|137=>272|217=>302|266=>318|n=>n,λ|9=>9|5=>5|3=>3|n=>n,λ|n=>n⟩
def Tryz.gi:Go.Shelf.Ren:=⟨λ|217=>302|266=>318|n=>n,λ|9=>9|5=>5|3=>3|n=>n,λ|n=>n⟩
theorem Tryz.j0:Go.Proofs.Lays.n217 Tryz.prog Tryz.gi:={
 mixed:=by kernel_rfl
 f217:=Tryz.func302.trans (congrArg some (by kernel_rfl))
 f266:=Tryz.func318.trans (congrArg some (by kernel_rfl))
 t3:=Tryz.underlying3
 a3:=Tryz.isAgg3
 z3:=Tryz.sizeOf3
 v3:=Tryz.zeroValue3
 t5:=Tryz.underlying5
 a5:=Tryz.isAgg5
 z5:=Tryz.sizeOf5
 v5:=Tryz.zeroValue5
 t9:=Tryz.underlying9
 a9:=Tryz.isAgg9
 z9:=Tryz.sizeOf9
 v9:=Tryz.zeroValue9}
open Go.RowKit Go.Lib in
theorem Tryz.stringslite_IndexByte(s:ByteArray)(c:Int)(w:World):
  Calls Tryz.prog 302 #[.string s, .int .u8 c] w λe w'=>e= .returned (.int .i64 (Lib.indexByte s.data.toList c.toNat.toUInt8))/\w'=w:=Any.stringslite_IndexByte Tryz.j0 s c w
def Tryz.gp:Go.Shelf.Ren:=⟨λ|190=>228|125=>270|258=>269|128=>300|129=>301|302=>291|303=>292|304=>293|305=>294|306=>295|307=>296|308=>297|309=>298|310=>299|333=>313|329=>314|330=>315|334=>316|335=>317|336=>278|344=>323|n=>n,λ|31=>24|9=>9|3=>3|46=>215|0=>0|51=>301|53=>75|4=>4|183=>295|182=>294|131=>100|5=>5|218=>311|222=>315|228=>319|229=>320|n=>n,λ|n=>n⟩
theorem Tryz.im:Go.Proofs.Lays.n190 Tryz.prog Tryz.gp:={
 mixed:=by kernel_rfl
 f125:=Tryz.func270.trans (congrArg some (by kernel_rfl))
 f128:=Tryz.func300.trans (congrArg some (by kernel_rfl))
 f129:=Tryz.func301.trans (congrArg some (by kernel_rfl))
 f190:=Tryz.func228.trans (congrArg some (by kernel_rfl))
 f258:=Tryz.func269.trans (congrArg some (by kernel_rfl))
 f302:=Tryz.func291.trans (congrArg some (by kernel_rfl))
 f303:=Tryz.func292.trans (congrArg some (by kernel_rfl))
 f304:=Tryz.func293.trans (congrArg some (by kernel_rfl))
 f305:=Tryz.func294.trans (congrArg some (by kernel_rfl))
 f306:=Tryz.func295.trans (congrArg some (by kernel_rfl))
 f307:=Tryz.func296.trans (congrArg some (by kernel_rfl))
 f308:=Tryz.func297.trans (congrArg some (by kernel_rfl))
 f309:=Tryz.func298.trans (congrArg some (by kernel_rfl))
 f310:=Tryz.func299.trans (congrArg some (by kernel_rfl))
 f329:=Tryz.func314.trans (congrArg some (by kernel_rfl))
 f330:=Tryz.func315.trans (congrArg some (by kernel_rfl))
 f333:=Tryz.func313.trans (congrArg some (by kernel_rfl))
 f334:=Tryz.func316.trans (congrArg some (by kernel_rfl))
 f335:=Tryz.func317.trans (congrArg some (by kernel_rfl))
 f336:=Tryz.func278.trans (congrArg some (by kernel_rfl))
 f344:=Tryz.func323.trans (congrArg some (by kernel_rfl))
 t0:=Tryz.underlying0
 a0:=Tryz.isAgg0
 z0:=Tryz.sizeOf0
 v0:=Tryz.zeroValue0
 t3:=Tryz.underlying3
 a3:=Tryz.isAgg3
 z3:=Tryz.sizeOf3
 v3:=Tryz.zeroValue3
 t4:=Tryz.underlying4
 a4:=Tryz.isAgg4
 z4:=Tryz.sizeOf4
 v4:=Tryz.zeroValue4
 t5:=Tryz.underlying5
 a5:=Tryz.isAgg5
 z5:=Tryz.sizeOf5
 v5:=Tryz.zeroValue5
 t9:=Tryz.underlying9
 a9:=Tryz.isAgg9
 z9:=Tryz.sizeOf9
 v9:=Tryz.zeroValue9
 t31:=Tryz.underlying24
 a31:=Tryz.isAgg24
 z31:=Tryz.sizeOf24
 v31:=Tryz.zeroValue24
 t46:=Tryz.underlying215
 a46:=Tryz.isAgg215
 z46:=Tryz.sizeOf215
 v46:=Tryz.zeroValue215
 t51:=Tryz.underlying301
 a51:=Tryz.isAgg301
 z51:=Tryz.sizeOf301
 v51:=Tryz.zeroValue301
 t53:=Tryz.underlying75
 a53:=Tryz.isAgg75
 z53:=Tryz.sizeOf75
 v53:=Tryz.zeroValue75
 t131:=Tryz.underlying100
 a131:=Tryz.isAgg100
 z131:=Tryz.sizeOf100
 v131:=Tryz.zeroValue100
 t182:=Tryz.underlying294
 a182:=Tryz.isAgg294
 z182:=Tryz.sizeOf294
 v182:=Tryz.zeroValue294
 t183:=Tryz.underlying295
 a183:=Tryz.isAgg295
 z183:=Tryz.sizeOf295
 v183:=Tryz.zeroValue295
 t218:=Tryz.underlying311
 a218:=Tryz.isAgg311
 z218:=Tryz.sizeOf311
 v218:=Tryz.zeroValue311
 t222:=Tryz.underlying315
 a222:=Tryz.isAgg315
 z222:=Tryz.sizeOf315
 v222:=Tryz.zeroValue315
 t228:=Tryz.underlying319
 a228:=Tryz.isAgg319
 z228:=Tryz.sizeOf319
 v228:=Tryz.zeroValue319
 t229:=Tryz.underlying320
 a229:=Tryz.isAgg320
 z229:=Tryz.sizeOf320
 v229:=Tryz.zeroValue320}
open Go.Sort Go.RowKit in
theorem Tryz.slices_Sort_string(blk off cap:Nat)(ss:List (List UInt8))(w:World)(hH:Holds encStr w blk off ss.toArray)(LA:blk<w.heap.size)(Bo:ss.length<4611686018427387904):
  Calls Tryz.prog 228 #[.slice (some ⟨blk,off,none⟩) ss.length cap] w λe w'=>
   e= .returned (.tuple #[])/\ ∃n os,w'=grow (putRow encStr (Sort.ahead w n) blk off (ss.mergeSort λx y=>decide (x<=y)).toArray) os:=Any.slices_Sort_string Tryz.im blk off cap ss w hH LA Bo
def Tryz.fh:Go.Shelf.Ren:=⟨λ|20=>172|n=>n,λ|22=>89|3=>3|4=>4|0=>0|n=>n,λ|n=>n⟩
theorem Tryz.fj:Go.Proofs.Lays2.n20 Tryz.prog Tryz.fh:={
 mixed:=by kernel_rfl
 f20:=Tryz.func172.trans (congrArg some (by kernel_rfl))
 t0:=Tryz.underlying0
 a0:=Tryz.isAgg0
 z0:=Tryz.sizeOf0
 v0:=Tryz.zeroValue0
 t3:=Tryz.underlying3
 a3:=Tryz.isAgg3
 z3:=Tryz.sizeOf3
 v3:=Tryz.zeroValue3
 t4:=Tryz.underlying4
 a4:=Tryz.isAgg4
 z4:=Tryz.sizeOf4
 v4:=Tryz.zeroValue4
 t22:=Tryz.underlying89
 a22:=Tryz.isAgg89
 z22:=Tryz.sizeOf89
 v22:=Tryz.zeroValue89
 i3:=by kernel_rfl}
open Go.RowKit Go.Lib Go.Sort in
theorem Tryz.slices_Compact_int(blk off cap:Nat)(zs:List Int)(w:World)(hH:Holds (Value.int .i64) w blk off zs.toArray)(Bo:zs.length<=9223372036854775807)(Fl:zs.length<=cap):
  Calls Tryz.prog 172 #[.slice (some ⟨blk,off,none⟩) zs.length cap] w λe w'=>e= .returned (.slice (some ⟨blk,off,none⟩) (Lib.compact zs).length cap)/\ ∃q,w'=putRow (Value.int .i64) (Sort.ahead w q) blk off (Lib.compact zs++List.replicate (zs.length-(Lib.compact zs).length) 0).toArray:=Any.slices_Compact_int Tryz.fj blk off cap zs w hH Bo Fl
open Go.RowKit Go.Lib Go.Sort in
theorem Tryz.slices_Compact_int_empty(a:Option Addr)(cap:Nat)(w:World):
  Calls Tryz.prog 172 #[.slice a 0 cap] w λe w'=>e= .returned (.slice a 0 cap)/\w'=w:=Any.slices_Compact_int_empty Tryz.fj a cap w
def Tryz.gn:Go.Shelf.Ren:=⟨λ|194=>229|n=>n,λ|31=>24|9=>9|3=>3|4=>4|0=>0|n=>n,λ|n=>n⟩
theorem Tryz.iq:Go.Proofs.Lays.n194 Tryz.prog Tryz.gn:={
 mixed:=by kernel_rfl
 f194:=Tryz.func229.trans (congrArg some (by kernel_rfl))
 t0:=Tryz.underlying0
 a0:=Tryz.isAgg0
 z0:=Tryz.sizeOf0
 v0:=Tryz.zeroValue0
 t3:=Tryz.underlying3
 a3:=Tryz.isAgg3
 z3:=Tryz.sizeOf3
 v3:=Tryz.zeroValue3
 t4:=Tryz.underlying4
 a4:=Tryz.isAgg4
 z4:=Tryz.sizeOf4
 v4:=Tryz.zeroValue4
 t9:=Tryz.underlying9
 a9:=Tryz.isAgg9
 z9:=Tryz.sizeOf9
 v9:=Tryz.zeroValue9
 t31:=Tryz.underlying24
 a31:=Tryz.isAgg24
 z31:=Tryz.sizeOf24
 v31:=Tryz.zeroValue24}
open Go.RowKit Go.Lib Go.Sort in
theorem Tryz.slices_Compact_string(blk off cap:Nat)(zs:List (List UInt8))(w:World)(hH:Holds encStr w blk off zs.toArray)(Bo:zs.length<=9223372036854775807)(Fl:zs.length<=cap):
  Calls Tryz.prog 229 #[.slice (some ⟨blk,off,none⟩) zs.length cap] w λe w'=>e= .returned (.slice (some ⟨blk,off,none⟩) (Lib.compact zs).length cap)/\ ∃q,w'=putRow encStr (Sort.ahead w q) blk off (Lib.compact zs++List.replicate (zs.length-(Lib.compact zs).length) []).toArray:=Any.slices_Compact_string Tryz.iq blk off cap zs w hH Bo Fl
open Go.RowKit Go.Lib Go.Sort in
theorem Tryz.slices_Compact_string_empty(a:Option Addr)(cap:Nat)(w:World):
  Calls Tryz.prog 229 #[.slice a 0 cap] w λe w'=>e= .returned (.slice a 0 cap)/\w'=w:=Any.slices_Compact_string_empty Tryz.iq a cap w
open Go.RowKit Go.Sort in
theorem Tryz.slices_Sort_string_none(p:Option Addr)(cap:Nat)(w:World):
  Calls Tryz.prog 228 #[.slice p 0 cap] w λe w'=>e= .returned (.tuple #[])/\w'=w:=Any.slices_Sort_string_none Tryz.im p cap w
end Go.Proofs
end
section
namespace Go.Proofs.YtalagilebkaegaaGreat
open Go.RowKit
set_option maxRecDepth 100000
theorem u7:∀(l:List UInt8) (c:UInt8), -1<=Lib.indexByte l c/\Lib.indexByte l c<l.length\/Lib.indexByte l c= -1
 | [],_=> .inr rfl
 |b::l,c=>by
  unfold Lib.indexByte;rcases u7 l c with h|h
  ·split
   ·left;simp
   ·split
    ·exact .inr rfl
    ·left;rw[Bd];omega
  ·rw[h];split
   ·left;simp
   ·right;rfl
theorem zBX{n:Int}(h1: -9223372036854775808<=n)(h2:n<=9223372036854775807):E9 .i64 n:=CQ h1 h2
def XO(s:List UInt8)(c:Int):Option Int:=some (Lib.indexByte s c.toNat.toUInt8)
theorem zhE(a0:List UInt8)(a1 r:Int)(h:XO a0 a1=some r):Co Tryz.prog B3 302 [.str a0, .int .u8 a1] (.int .i64 r):=zC8 (by kernel_rfl) λw vs rf hr=>by
 obtain⟨b,us,rfl,rfl,hb,hr⟩:=eY hr;obtain⟨us1,rfl,_,hr⟩:=NU hr;obtain⟨rfl,rfl⟩:=NK hr;refine(Tryz.stringslite_IndexByte b a1 w).mono ?_;rintro e w' ⟨rfl,rfl⟩;cases h;have hl:b.data.toList.length<=9223372036854775807:=by rw[BG];exact hb
 exact⟨Mod.refl [] _,_,[],rfl, .int (by rcases u7 b.data.toList a1.toNat.toUInt8 with h|h<;>exact zBX (by omega) (by omega)) .nil,by simp⟩
theorem Y3{P:Program}(w:World)(dT sT ty elem:TypeId)(k:Nat)(g o dLen dCap:Nat)(a:Addr)(sLen sCap:Nat)(cur:Array Value)(t:TypeId)(cs:List Value)
  (hu:P.underlying dT=some (.slice elem)) (hs:(P.info? elem).map (·.size)=some k)
  (hg:w.heap[g]?=some (.cells cur t (0,0))) (hn:cs.length=Nat.min sLen dLen*k)
  (Dm:∀j v,cs[j]?=some v->w.cell? (a.add j)=some v) (EP:o+cs.length<=cur.size) (h1:∀v∈cs,v.oneCell'=true):
  (Builtin.copy_ #[dT,sT] ty #[.slice (some ⟨g,o,none⟩) dLen dCap, .slice (some a) sLen sCap]).run P w=
   .ok (goInt (Nat.min sLen dLen)) (w.setRow g (cur.toList.take o++cs++cur.toList.drop (o+cs.length)).toArray):=by
 have hl:=run_loadCells_list (P:=P) w a cs Dm;have Ew:=run_storeCells_at P g o t cs 0 cur w hg (by simpa using EP) h1;cases hq:P.info? elem with
 |none=>simp[hq]at hs
 |some i=>
  have hi:i.size=k:=by simpa[hq]using hs
  rw[hn]at hl;simp[Builtin.copy_,run_underlying hu,Builtin.lenOf,Builtin.firstCells,sizeOf,typeInfo,hq,hi,hl,Ew]
theorem jJ{P:Program}(w:World){ops:Array Oper}{rest:List Oper}{o:Oper}{a:Act}{Q:Exit->Act->World->Prop}(Qk:o.guard=none)(d s:Operand)(t t':TypeId)
  (ho:o.op= .call {callee:= .builtin .copy,args:= #[d,s],argTypes:= #[t,t']}) (v u:Value) (hd:a.eval d=v) (hs:a.eval s=u) {v':Value} {w':World}
  (hr:(Builtin.copy_ #[t,t'] o.type #[v,u]).run P w= .ok v' w') (h:wpList P ops Q rest (a.put o.dst v') w'):wpList P ops Q (o::rest) a w:=
 wpList_plain Qk λ_ hK=>by unfold Oper.wp execOp;simp only[ho,resolve,invoke,builtin,Sem.run_bind,Sem.run_pure,Result.andThen_ok,List.map_toArray,List.map_cons,List.map_nil,hd,hs,hr];exact hK _ _ h
theorem wM{P:Program}{ops:Array Oper}{o:Oper}{a:Act}{w:World}{K:Act->World->Prop}{Q:Exit->Act->World->Prop}{E:Prop}
  (hg:o.guard=none) (d x:Operand) (dT sT:TypeId) (AW:o.op=Op.call {callee:=Callee.builtin Builtin.copy,args:= #[d,x],argTypes:= #[dT,sT]})
  (v u:Value) (hd:a.eval d=v) (hx:a.eval x=u) {v':Value} {w':World} (hr:(Builtin.copy_ #[dT,sT] o.type #[v,u]).run P w= .ok v' w') (hK:K (a.put o.dst v') w'):
  if Region.wanted o (yielded ops a.tmps)=true then Oper.wp P o a w K Q else E:=by
 have hw:Region.wanted o (yielded ops a.tmps)=true:=by simp[Region.wanted,hg]
 rw[if_pos hw];unfold Oper.wp;simp[execOp,AW,resolve,invoke,builtin,hd,hx,hr,Result.andThen];exact hK
def Dg(w:World)(el:TypeId)(k:Nat)(g cap:Nat)(C:Array Value)(n:Nat)(cs:List Value):Prop:=
 n<=cap/\cap<=maxLen/\w.heap[g]?=some (.cells C el (0,0))/\C.size=cap*k/\cs=C.toList.take (n*k)
def O6(w w':World)(el:TypeId)(k:Nat)(own:List Nat)(v:Value)(n:Nat)(cs:List Value):Prop:=
 ∃g cap C,v= .slice (some ⟨g,0,none⟩) n cap/\Dg w' el k g cap C n cs/\Mod own w w'/\(g∈own\/w.heap.size<=g)
def Ob(P:Program)(f:Nat)(el:TypeId)(k:Nat):Prop:=
 ∀(w:World) (v:Value) (n i:Nat) (cs:List Value) (own:List Nat) (vb vc m:Nat) (VC:Array Value) (vs:List Value),cs.length=n*k->
  ((n=0/\ ∃q,v= .slice q 0 0)\/ ∃g cap C,v= .slice (some ⟨g,0,none⟩) n cap/\Dg w el k g cap C n cs/\g∈own)->i<=n->Dg w el k vb vc VC m vs->(∀g∈own,vb≠g)->0<m->(n+m)*1000<=140737488355328->
  (∀u∈vs,u.oneCell'=true)->(∀u∈cs,u.oneCell'=true)->
  Calls P f #[v, .int .i64 i, .slice (some ⟨vb,0,none⟩) m vc] w λe w'=> ∃u,e= .returned u/\O6 w w' el k own u (n+m) (cs.take (i*k)++vs++cs.drop (i*k))
theorem Dg.cell{w:World}{el:TypeId}{k g cap:Nat}{C:Array Value}{n:Nat}{cs:List Value}(h:Dg w el k g cap C n cs)(off j:Nat)(v:Value)(hj:(cs.drop off)[j]?=some v):w.cell? ((⟨g,off,none⟩:Addr).add j)=some v:=by
 obtain⟨_,_,h3,_,h5⟩:=h;rw[Addr.add_lit,ED h3];rw[List.getElem?_drop,h5,List.getElem?_take]at hj;split at hj
 ·simpa using hj
 ·cases hj
theorem Dg.len{w:World}{el:TypeId}{k g cap:Nat}{C:Array Value}{n:Nat}{cs:List Value}(h:Dg w el k g cap C n cs):cs.length=n*k:=by obtain⟨h1,_,_,h4,h5⟩:=h;have:=By k h1;rw[h5,Ar,BG];omega
theorem zFz{α:Type}(cur cs vs:List α)(i m n:Nat)(hc:cs=cur.take n)(hi:i<=n)(hv:vs.length=m)(hn:n+m<=cur.length):
  let c1:=cur.take (i+m)++cs.drop i++cur.drop (i+m+(cs.drop i).length)
  (c1.take i++vs++c1.drop (i+vs.length)).take (n+m)=cs.take i++vs++cs.drop i:=by
 have Aw:cs.length=n:=by rw[hc,Ar];omega
 have hd:(cs.drop i).length=n-i:=by rw[BC,Aw]
 intro c1;have e1:c1.take i=cs.take i:=by show(cur.take (i+m)++cs.drop i++_).take i=_;rw[List.append_assoc,List.take_append_of_le_length (by rw[Ar];omega),List.take_take,hc,List.take_take];congr 1;omega
 have e2:c1.drop (i+vs.length)=cs.drop i++cur.drop (i+m+(cs.drop i).length):=by show(cur.take (i+m)++cs.drop i++_).drop _=_;rw[List.append_assoc,List.drop_append_of_le_length (by rw[Ar,hv];omega),List.drop_eq_nil_of_le (by rw[Ar,hv];omega),List.nil_append]
 rw[e1,e2];have l1:(cs.take i++vs++cs.drop i).length=n+m:=by simp only[AH,Ar,hv,hd,Aw];omega
 rw[<-List.append_assoc,<-l1,List.take_left]
theorem two{α:Type}(zs cs vs:List α)(i m n:Nat)(cur:List α)(bW:cur=cs.take i++zs)(Aw:cs.length=n)(hi:i<=n)(hv:vs.length=m)(hz:n+m-i<=zs.length):
  let c1:=cur.take i++vs++cur.drop (i+vs.length)
  (c1.take (i+m)++cs.drop i++c1.drop (i+m+(cs.drop i).length)).take (n+m)=cs.take i++vs++cs.drop i:=by
 have ht:(cs.take i).length=i:=by rw[Ar];omega
 intro c1;have e1:c1=cs.take i++vs++cur.drop (i+vs.length):=by show cur.take i++vs++cur.drop (i+vs.length)=_;rw[bW];congr 2;rw[List.take_append_of_le_length (by omega),List.take_take,Nat.min_self]
 have e2:c1.take (i+m)=cs.take i++vs:=by
  have l2:(cs.take i++vs).length=i+m:=by rw[AH,ht,hv]
  rw[e1,<-l2,List.take_left]
 rw[e2];have l1:(cs.take i++vs++cs.drop i).length=n+m:=by simp only[AH,ht,hv,BC,Aw];omega
 rw[<-l1,List.take_left]
theorem Sp(xs ys:List AV):Ao (xs++ys)=Ao xs++Ao ys:=by simp[Ao]
theorem Sh{K:Nat}{xs:List AV}(h:∀y∈xs,y.cells.length=K){i:Nat}(hi:i<=xs.length):Ao (xs.take i)=(Ao xs).take (i*K)/\Ao (xs.drop i)=(Ao xs).drop (i*K):=by
 have l1:(Ao (xs.take i)).length=i*K:=by rw[K4 _ λy hy=>h y (Bt hy),Ar,Nat.min_eq_left hi]
 have e:Ao xs=Ao (xs.take i)++Ao (xs.drop i):=by rw[<-Sp,Cf]
 rw[e,<-l1,List.take_left,List.drop_left];exact⟨rfl,rfl⟩
theorem Db.jy{w:World}{el K:Nat}{v:Value}{x:AV}{top:List Nat}(h:Db w el K v x top []):∃xs cs,x= .sl xs/\0<K/\(∀y∈xs,y.cells.length=K)/\cs.length=xs.length*K/\Rd w cs (Ao xs) []/\(∀u∈cs,u.oneCell'=true)/\
  ((xs=[]/\top=[]/\ ∃q,v= .slice q 0 0)\/ ∃g cap C,v= .slice (some ⟨g,0,none⟩) xs.length cap/\Dg w el K g cap C xs.length cs/\top=[g]):=by
 obtain⟨xs,rfl,h2,h3,⟨rfl,⟨a,hv⟩,rfl,_⟩|⟨g,cap,C,rfl,h6,h7,h8,h9,rfl,Fk,EM⟩⟩:=h
 ·exact⟨[],[],rfl,h3,h2,by simp,by simpa[Ao]using Rd.nil,by simp, .inl ⟨rfl,rfl,a,hv⟩⟩
 ·exact⟨xs,_,rfl,h3,h2,(Dg.len ⟨h6,h7,h8,h9,rfl⟩),EM,Fk, .inr ⟨g,cap,C,rfl,⟨h6,h7,h8,h9,rfl⟩,rfl⟩⟩
theorem ZF{P:Program}{w:World}{t el:TypeId}{v:Value}{x:AV}{rf hs:List Nat}(ha:Am P t=false)(hl:Bf P t=[t])(he:CX P t=some el)(hf:Cc P el=true)(h:N6 P w t [true] v x rf hs):rf=[]/\Db w el (P.cellsOf el) v x hs []:=by
 obtain⟨us,ys,h1,h2⟩:=h;rw[ha]at h1;simp only[Ba,if_false]at h1;obtain⟨rfl,rfl⟩:=h1;rw[hl]at h2;cases h2 with
 |own q1 q2 q3 q4 q5=>
  cases q5;rw[he]at q2;cases q2;rcases q3 with⟨_,rfl⟩|⟨h,_⟩
  ·exact⟨rfl,by simpa using q4⟩
  ·rw[hf]at h;cases h
 |deep q1 q2 q3=>rw[he]at q2;cases q2;rw[hf]at q3;cases q3
 |rd q1=>have:=q1 rfl;rw[he]at this;cases this
def fR(P:Program)(sg:BY)(f:Nat)(t it el K:Nat):Bool:=
 match P.funcs[f]?,sg f with
 |some fn,some s=>(match s.b8,s.res,s.ft,s.lo with
  | [.va [true], .ro, .va [true]],[true],[],[]=>true
  |_,_,_,_=>false)&&fn.body.isSome&& !(fn.name== "runtime.NumGoroutine")&&fn.params.toList==[t,it,t]&&(Du fn s)==[t]&&fn.nfree==0&& !Am P t&&Bf P t==[t]&&CX P t==some el&&Cc P el&&P.cellsOf el==K&&F0 P t [true]&&fn.params.size==3
 |_,_=>false
def Hy(P:Program)(sg:BY)(f:Nat)(r:List AV):Bool:=match P.funcs[f]?,sg f with
 |some fn,some s=>NN P fn s (.sl r)
 |_,_=>false
theorem zD1{f t it el K:Nat}(hk:fR Tryz.prog B3 f t it el K=true)(B5:∀r,Hy Tryz.prog B3 f r=true)(Fo:Ob Tryz.prog f el K)(xs ys:List AV)(i:Int)(h0:0<=i)(h1:i<=xs.length)(hy:ys≠ [])(hb:(xs.length+ys.length)*1000<=140737488355328):
  Co Tryz.prog B3 f [.sl xs, .int .i64 i, .sl ys] (.sl (xs.take i.toNat++ys++xs.drop i.toNat)):=by
 unfold fR at hk;split at hk
 ·rename_i fn s hf hs;simp only[Ab,Bc,AM]at hk;obtain⟨⟨⟨⟨⟨⟨⟨⟨⟨⟨⟨⟨g1,g2⟩,g3⟩,g4⟩,g5⟩,g6⟩,g7⟩,g8⟩,g9⟩,g10⟩,g11⟩,g12⟩,g13⟩:=hk;obtain⟨hm,hr,CA,BT⟩:s.b8=[.va [true], .ro, .va [true]]/\s.res=[true]/\s.ft=[]/\s.lo=[]:=by
   split at g1
   ·rename_i a b c d;exact⟨a,b,c,d⟩
   ·cases g1
  unfold Co;rw[if_pos (KC f s hs)];refine⟨s,hs,fn,hf,g2,g3,by have:=B5 (xs.take i.toNat++ys++xs.drop i.toNat);unfold Hy at this;rw[hf,hs]at this;exact this,by simp[g6,g13],by simp[CA],λw vs rf lf A9 Ah hd _ B6 D1=> ?_⟩;rw[g4,CA,AB,hm,BT]at Ah;cases Ah with
  |lent h _ _ _=>cases h
  | @cons _ _ _ _ v1 vs1 _ _ f1 k1 rf1 lf1 BL a1 Ah=>
   cases Ah with
   |lent h _ _ _=>cases h
   | @cons _ _ _ _ v2 vs2 _ _ f2 k2 rf2 lf2 Bb a2 Ah=>
    cases Ah with
    |lent h _ _ _=>cases h
    | @cons _ _ _ _ v3 vs3 _ _ f3 k3 rf3 lf3 Hl a3 Ah=>
     cases Ah;obtain⟨rfl,r1⟩:=ZF g7 g8 g9 g10 a1;obtain⟨rfl,r3⟩:=ZF g7 g8 g9 g10 a3;obtain⟨a2,rfl⟩:Rd w [v2] [AV.int .i64 i] f2/\k2=[]:=a2;obtain⟨us,rfl2,hI,a2⟩:=NU a2;obtain⟨rfl,rfl⟩:=NK a2;cases rfl2;obtain⟨xs',cs,e1,p0,p1,p2,p3,p4,p5⟩:=r1.jy;cases e1;obtain⟨ys',cv,e2,_,q1,q2,q3,q4,q5⟩:=r3.jy;cases e2;rw[g11]at p0 p1 p2 p5 q1 q2 q5;obtain⟨vb,vc,VC,rfl,hv,rfl⟩:∃g cap C,v3= .slice (some ⟨g,0,none⟩) ys.length cap/\Dg w el K g cap C ys.length cv/\k3=[g]:=by
      rcases q5 with⟨h,_⟩|h
      ·exact absurd h hy
      ·exact h
     have hnd':k1++ [vb]=k1++([]++([vb]++ [])):=by simp
     have I7:∀g∈k1,vb≠g:=by intro g hg e;subst e;have:=(List.nodup_append.1 B6).2.2 vb hg vb (by simp);exact this rfl
     have eR:0<ys.length:=by cases ys with|nil=>exact absurd rfl hy|cons=>simp
     have hc:=Fo w v1 xs.length i.toNat cs k1 vb vc ys.length VC cv p2 (by
      rcases p5 with⟨rfl,_,q,rfl⟩|⟨g,cap,C,rfl,h,rfl⟩
      ·exact .inl ⟨rfl,q,rfl⟩
      ·exact .inr ⟨g,cap,C,rfl,h,by simp⟩) (by omega) hv I7 eR hb q4 p4
     rw[show((i.toNat:Nat):Int)=i by omega]at hc;refine hc.mono ?_;rintro e w' ⟨u,rfl,g,cap,C,rfl,⟨z1,z2,z3,z4,z5⟩,Bj,Eh⟩;have I8:∀{us:List Value} {zs:List AV},Rd w us zs []->Rd w' us zs []:=λh=>h.frame (by simp);have cut:∀o n,Rd w ((cs.drop o).take n) (((Ao xs).drop o).take n) []:=λo n=>by
      obtain⟨gg,k1,k2⟩:=p3.piece o n;have:gg=[]:=List.eq_nil_iff_forall_not_mem.2 λb hb=>by simpa using k1 b hb
      rw[this]at k2;exact k2
     obtain⟨t1,t2⟩:=Sh p1 (i:=i.toNat) (by omega);have hmul:=By K (show i.toNat<=xs.length by omega);have Dj:Rd w' (cs.take (i.toNat*K)++cv++cs.drop (i.toNat*K)) (Ao (xs.take i.toNat++ys++xs.drop i.toNat)) []:=by rw[Sp,Sp,t1,t2];have c1:=cut 0 (i.toNat*K);have c2:=cut (i.toNat*K) (cs.length-i.toNat*K);rw[List.drop_zero,List.drop_zero]at c1;rw[List.take_of_length_le (by simp),List.take_of_length_le (by rw[BC,K4 _ p1,p2];exact AN _)]at c2;exact(((I8 c1).app (I8 q3)).app (I8 c2))
     have hlen:(xs.take i.toNat++ys++xs.drop i.toNat).length=xs.length+ys.length:=by simp only[AH,Ar,BC];omega
     have Bk:Db w' el K (.slice (some ⟨g,0,none⟩) (xs.length+ys.length) cap) (.sl (xs.take i.toNat++ys++xs.drop i.toNat)) [g] []:=by
      refine⟨_,rfl,λy hy=> ?_,p0, .inr ⟨g,cap,C,by rw[hlen],by rw[hlen];exact z1,z2,z3,z4,rfl,?_,?_⟩⟩
      ·rcases Ac.1 hy with hy|hy
       ·rcases Ac.1 hy with hy|hy
        ·exact p1 y (Bt hy)
        ·exact q1 y hy
       ·exact p1 y (BH hy)
      ·rw[hlen,<-z5];intro u hu;rcases Ac.1 hu with hu|hu
       ·rcases Ac.1 hu with hu|hu
        ·exact p4 u (Bt hu)
        ·exact q4 u hu
       ·exact p4 u (BH hu)
      ·rw[hlen,<-z5];exact Dj
     refine⟨_,rfl,⟨⟨_,[],[],[g],[],[],rfl,?_,?_,by simp,?_,by simp⟩,Bj.weaken λb hb=> .inl (by simp[hb])⟩⟩
     ·rw[g5];show DY Tryz.prog w' t s.res _ _ [] [g];unfold DY;rw[hr,if_pos g12];refine⟨[.slice (some ⟨g,0,none⟩) (xs.length+ys.length) cap],[.sl (xs.take i.toNat++ys++xs.drop i.toNat)],by rw[g7];simp,?_⟩;rw[g8];have:=Cz.own (P:=Tryz.prog) (t:=t) (ts:=[]) (fl:=[true]) (us:=[]) (ys:=[]) (rf:=[]) (hs:=[]) rfl g9 (.inl ⟨g10,rfl⟩) (by rw[g11];exact Bk) .nil;simpa using this
     ·rw[g4,CA,AB,hm];exact .va rfl (.ro rfl (.va rfl .nil))
     ·intro b hb;simp only[AB,List.mem_singleton]at hb;subst hb;exact⟨by rcases Eh with h|h;exact .inl (by simp[h]);exact .inr h,De z3⟩
 ·cases hk
noncomputable def Ib{α:Type}(xs:List α)(i:Int)(ys:List α):Option (List α):=req (0<=i/\i<=xs.length/\0<ys.length/\(xs.length+ys.length)*1000<=140737488355328) (some (xs.take i.toNat++ys++xs.drop i.toNat))
theorem zD0{f t it el K:Nat}(hk:fR Tryz.prog B3 f t it el K=true)(B5:∀r,Hy Tryz.prog B3 f r=true)(Fo:Ob Tryz.prog f el K){α:Type}{av:α->AV}{xs ys r:List α}{i:Int}(h:Ib xs i ys=some r):
  Co Tryz.prog B3 f [.sl (xs.map av), .int .i64 i, .sl (ys.map av)] (.sl (r.map av)):=by
 obtain⟨⟨h0,h1,h2,h3⟩,h⟩:=F3 h;cases h;have:=zD1 hk B5 Fo (xs.map av) (ys.map av) i h0 (by simpa using h1) (by cases ys with|nil=>simp at h2|cons=>simp) (by simpa using h3);simpa[List.map_append,List.map_take,List.map_drop]using this
theorem Zx{P:Program}{w:World}{t el K:Nat}{l:Av}{v:Value}{x:AV}{rf hs:List Nat}(ha:Am P t=false)(hl:Bf P t=[t])(he:CX P t=some el)(hf:Cc P el=false)(hd:DF P t=some (.row el K l))(h:N6 P w t [true] v x rf hs):rf=[]/\DC w [.row el K l] [v] [x] hs:=by
 obtain⟨us,ys,h1,h2⟩:=h;rw[ha]at h1;simp only[Ba,if_false]at h1;obtain⟨rfl,rfl⟩:=h1;rw[hl]at h2;cases h2 with
 |own q1 q2 q3 q4 q5=>
  rw[he]at q2;cases q2;rcases q3 with⟨h,_⟩|⟨_,h⟩
  ·rw[hf]at h;cases h
  ·rw[hd]at h;cases h
 |deep q1 q2 q3 q4 q5 q6=>cases q6;rw[hd]at q4;cases q4;exact⟨rfl,by simpa using q5⟩
 |rd q1=>have:=q1 rfl;rw[he]at this;cases this
theorem mL(l:List DT){n i:Nat}(hi:i<=n):Bq n l=Bq i l++Bq (n-i) l:=by rw[<-K7];congr 1;omega
theorem DC.cut{w:World}{xs:List AV}{l:List DT}{K:Nat}{cs:List Value}{N:List Nat}(hK:l.length=K)(h:DC w (Bq xs.length l) cs (Ao xs) N)(hx:∀y∈xs,y.cells.length=K){i:Nat}(hi:i<=xs.length):
  ∃N1 N2,N=N1++N2/\DC w (Bq i l) (cs.take (i*K)) (Ao (xs.take i)) N1/\DC w (Bq (xs.length-i) l) (cs.drop (i*K)) (Ao (xs.drop i)) N2:=by
 have hlen:=h.len;have t1:=Sh hx hi;have hmul:=By K hi;rw[mL l hi,<-Cf (i*K) cs,<-Cf (i*K) (Ao xs)]at h;rw[K6,hK]at hlen;obtain⟨N1,N2,rfl,h1,h2⟩:=DC.dy (by rw[K6,hK,Ar];omega) (by rw[K6,hK,Ar];omega) h;exact⟨N1,N2,rfl,by rw[t1.1];exact h1,by rw[t1.2];exact h2⟩
def fP(P:Program)(sg:BY)(f:Nat)(t it el K:Nat)(l:List DT):Bool:=
 match P.funcs[f]?,sg f with
 |some fn,some s=>(match s.b8,s.res,s.ft,s.lo with
  | [.va [true], .ro, .va [true]],[true],[],[]=>true
  |_,_,_,_=>false)&&fn.body.isSome&& !(fn.name== "runtime.NumGoroutine")&&fn.params.toList==[t,it,t]&&(Du fn s)==[t]&&fn.nfree==0&& !Am P t&&Bf P t==[t]&&CX P t==some el&& !Cc P el&&KA (DF P t) el K l&&F0 P t [true]&&fn.params.size==3
 |_,_=>false
theorem zBB{f t it el K:Nat}{l:List DT}(hk:fP Tryz.prog B3 f t it el K l=true)(B5:∀r,Hy Tryz.prog B3 f r=true)(Fo:Ob Tryz.prog f el K)(xs ys:List AV)(i:Int)(h0:0<=i)(h1:i<=xs.length)(hy:ys≠ [])(hb:(xs.length+ys.length)*1000<=140737488355328):
  Co Tryz.prog B3 f [.sl xs, .int .i64 i, .sl ys] (.sl (xs.take i.toNat++ys++xs.drop i.toNat)):=by
 unfold fP at hk;split at hk
 ·rename_i fn s hf hs;simp only[Ab,Bc,AM]at hk;obtain⟨⟨⟨⟨⟨⟨⟨⟨⟨⟨⟨⟨g1,g2⟩,g3⟩,g4⟩,g5⟩,g6⟩,g7⟩,g8⟩,g9⟩,g10⟩,g11⟩,g12⟩,g13⟩:=hk;have g11:=Nz g11;obtain⟨hm,hr,CA,BT⟩:s.b8=[.va [true], .ro, .va [true]]/\s.res=[true]/\s.ft=[]/\s.lo=[]:=by
   split at g1
   ·rename_i a b c d;exact⟨a,b,c,d⟩
   ·cases g1
  unfold Co;rw[if_pos (KC f s hs)];refine⟨s,hs,fn,hf,g2,g3,by have:=B5 (xs.take i.toNat++ys++xs.drop i.toNat);unfold Hy at this;rw[hf,hs]at this;exact this,by simp[g6,g13],by simp[CA],λw vs rf lf A9 Ah hd _ B6 D1=> ?_⟩;rw[g4,CA,AB,hm,BT]at Ah;cases Ah with
  |lent h _ _ _=>cases h
  | @cons _ _ _ _ v1 vs1 _ _ f1 k1 rf1 lf1 BL a1 Ah=>
   cases Ah with
   |lent h _ _ _=>cases h
   | @cons _ _ _ _ v2 vs2 _ _ f2 k2 rf2 lf2 Bb a2 Ah=>
    cases Ah with
    |lent h _ _ _=>cases h
    | @cons _ _ _ _ v3 vs3 _ _ f3 k3 rf3 lf3 Hl a3 Ah=>
     cases Ah;obtain⟨rfl,r1⟩:=Zx g7 g8 g9 g10 g11 a1;obtain⟨rfl,r3⟩:=Zx g7 g8 g9 g10 g11 a3;obtain⟨a2,rfl⟩:Rd w [v2] [AV.int .i64 i] f2/\k2=[]:=a2;obtain⟨us,rfl2,hI,a2⟩:=NU a2;obtain⟨rfl,rfl⟩:=NK a2;cases rfl2;obtain⟨p0,pl,r1'⟩:=r1.inv;obtain⟨_,_,⟨a,_,e2,_⟩|⟨vb,vc,VC,ys',M,rfl,e2,rfl,q1,q2,q3,q4,q5,q6,q7⟩⟩:=r3.inv
     ·cases e2;exact absurd rfl hy
     cases e2;rw[Av.ax]at pl q7;have eR:0<ys.length:=by cases ys with|nil=>exact absurd rfl hy|cons=>simp
     have hv:Dg w el K vb vc VC ys.length (VC.toList.take (ys.length*K)):=⟨q2,q3,q1,q4,rfl⟩
     obtain⟨cs,own,N,e1,GN,Aw,AT,hsin,dI,dQ,HU⟩:∃(cs:List Value) (own N:List Nat),k1=own++N/\own.length<=1/\cs.length=xs.length*K/\
       ((xs.length=0/\ ∃q,v1= .slice q 0 0)\/ ∃g cap C,v1= .slice (some ⟨g,0,none⟩) xs.length cap/\Dg w el K g cap C xs.length cs/\g∈own)/\(∀g∈own,g∈k1)/\(∀u∈cs,u.oneCell'=true)/\(∀y∈xs,y.cells.length=K)/\DC w (Bq xs.length l) cs (Ao xs) N:=by
      rcases r1' with⟨a,rfl,e1,rfl⟩|⟨g,cap,C,xs',N,rfl,e1,rfl,d1,d2,d3,d4,d5,d6,d7⟩
      ·cases e1;exact⟨[],[],[],rfl,by simp,by simp, .inl ⟨rfl,a,rfl⟩,by simp,by simp,by simp,by simpa[Bq,Ao]using DC.nil⟩
      ·cases e1;rw[Av.ax]at d7;have hR:Dg w el K g cap C xs.length (C.toList.take (xs.length*K)):=⟨d2,d3,d1,d4,rfl⟩
       exact⟨_,[g],N,rfl,by simp,hR.len, .inr ⟨g,cap,C,rfl,hR,by simp⟩,by simp,d6,d5,d7⟩
     subst e1;have Ch:i.toNat<=xs.length:=by omega
     have I7:∀g∈own,vb≠g:=by intro g hg e;subst e;have hn:((own++N)++([]++((vb::M)++ []))).Nodup:=B6;exact(List.nodup_append.1 hn).2.2 vb (by simp[hg]) vb (by simp) rfl
     have hc:=Fo w v1 xs.length i.toNat cs own vb vc ys.length VC _ Aw AT Ch hv I7 eR hb q6 dI;rw[show((i.toNat:Nat):Int)=i by omega]at hc;refine hc.mono ?_;rintro e w' ⟨u,rfl,g,cap,C,rfl,⟨z1,z2,z3,z4,z5⟩,Bj,Eh⟩;have Eb:((own++N)++(vb::M)).Nodup:=by simpa using B6
     have dH:∀b∈N,b∉own:=λb hb ho=>(List.nodup_append.1 (List.nodup_append.1 Eb).1).2.2 b ho b hb rfl;have pY:∀b∈M,b∉own:=λb hb ho=>(List.nodup_append.1 Eb).2.2 b (by simp[ho]) b (by simp[hb]) rfl;have fN:=HU.frame (w':=w') λb hb=>Bj.block b (HU.inb b hb) (dH b hb);have fM:=q7.frame (w':=w') λb hb=>Bj.block b (q7.inb b hb) (pY b hb);obtain⟨N1,N2,rfl,c1,c2⟩:=fN.cut pl dQ Ch;have hlen:(xs.take i.toNat++ys++xs.drop i.toNat).length=xs.length+ys.length:=by simp only[AH,Ar,BC];omega
     have BZ:DC w' (Bq (xs.length+ys.length) l) (C.toList.take ((xs.length+ys.length)*K)) (Ao (xs.take i.toNat++ys++xs.drop i.toNat)) (N1++M++N2):=by rw[<-z5,Sp,Sp,show xs.length+ys.length=(i.toNat+ys.length)+(xs.length-i.toNat) by omega,K7,K7];exact(c1.app fM).app c2
     have Bk:DC w' [.row el K (Av.of l)] [.slice (some ⟨g,0,none⟩) (xs.length+ys.length) cap] [.sl (xs.take i.toNat++ys++xs.drop i.toNat)] (g::(N1++M++N2)):=by
      have:=DC.row (w:=w') (e:=el) (z:=K) (l:=Av.of l) (g:=g) (cap:=cap) (C:=C) (ys:=xs.take i.toNat++ys++xs.drop i.toNat) (N1:=N1++M++N2) (ts:=[]) (vs:=[]) (xs:=[]) (N:=[]) p0 (by rw[Av.ax];exact pl) z3 (by rw[hlen];exact z1) z2 z4 (λy hy=> ?_) (by
       rw[hlen,<-z5];intro u hu;rcases Ac.1 hu with hu|hu
       ·rcases Ac.1 hu with hu|hu
        ·exact dI u (Bt hu)
        ·exact q6 u hu
       ·exact dI u (BH hu)) (by rw[hlen,Av.ax];exact BZ) .nil
      ·rw[hlen]at this;simpa using this
      ·rcases Ac.1 hy with hy|hy
       ·rcases Ac.1 hy with hy|hy
        ·exact dQ y (Bt hy)
        ·exact q5 y hy
       ·exact dQ y (BH hy)
     have B1:∀b∈N1++M++N2,b∈(own++(N1++N2))++(vb::M):=λb hb=>by simp only[Ac,Ae]at hb ⊢;rcases hb with(hb|hb)|hb<;>simp[hb]
     have LJ:(N1++M++N2).Nodup:=by
      have h1:((N1++N2)++M).Nodup:=((List.nodup_append.1 Eb).1.sublist (List.sublist_append_right _ _)|>λa=>List.nodup_append.2 ⟨a,((List.nodup_append.1 Eb).2.1).sublist (List.sublist_cons_self _ _),λp hp q hq=>(List.nodup_append.1 Eb).2.2 p (List.mem_append_right _ hp) q (List.mem_cons_of_mem _ hq)⟩)
      exact(List.Perm.nodup_iff (by rw[List.append_assoc,List.append_assoc];exact List.Perm.append_left _ List.perm_append_comm)).1 h1
     have hgn:g∉N1++M++N2:=by
      intro C7;rcases Eh with hg|hg
      ·simp only[Ac]at C7;rcases C7 with(C7|C7)|C7
       ·exact dH g (by simp[C7]) hg
       ·exact pY g C7 hg
       ·exact dH g (by simp[C7]) hg
      ·simp only[Ac]at C7;rcases C7 with(C7|C7)|C7
       ·have:=HU.inb g (by simp[C7]);omega
       ·have:=q7.inb g C7;omega
       ·have:=HU.inb g (by simp[C7]);omega
     refine⟨_,rfl,⟨⟨_,[],[],g::(N1++M++N2),[],[],rfl,?_,?_,?_,?_,by simp⟩,Bj.weaken λb hb=> .inl (by simp[hb])⟩⟩
     ·rw[g5];show DY Tryz.prog w' t s.res _ _ [] _;unfold DY;rw[hr,if_pos g12];refine⟨[.slice (some ⟨g,0,none⟩) (xs.length+ys.length) cap],[.sl (xs.take i.toNat++ys++xs.drop i.toNat)],by rw[g7];simp,?_⟩;rw[g8];have:=Cz.deep (P:=Tryz.prog) (t:=t) (ts:=[]) (fl:=[true]) (us:=[]) (ys:=[]) (rf:=[]) (hs:=[]) rfl g9 g10 g11 Bk .nil;simpa using this
     ·rw[g4,CA,AB,hm];exact .va rfl (.ro rfl (.va rfl .nil))
     ·rw[AB];exact List.nodup_cons.2 ⟨hgn,LJ⟩
     ·intro b hb;rw[AB]at hb;rcases Ae.1 hb with rfl|hb
      ·exact⟨by rcases Eh with h|h;exact .inl (by simp[h]);exact .inr h,De z3⟩
      ·have:=B1 b hb;refine⟨.inl (by simpa using this),?_⟩;have Ax:b<w.heap.size:=by
        simp only[Ac,Ae]at hb;rcases hb with(hb|hb)|hb
        ·exact HU.inb b (by simp[hb])
        ·exact q7.inb b hb
        ·exact HU.inb b (by simp[hb])
       have:=Bj.size;omega
 ·cases hk
theorem zpQ{P:Program}(w:World)(t ty el:TypeId)(i:TypeInfo)(ht:P.underlying t=some (.slice el))(hi:P.info? el=some i)(k:Nat)(hk:i.size=k)(g n cap:Nat)(a:Addr)(m c:Nat)(cur:Array Value)(news:List Value)
  (hg:w.heap[g]?=some (.cells cur el (0,0))) (hl:news.length=m*k) (Dh:∀j u,news[j]?=some u->w.cell? (a.add j)=some u) (h1:∀u∈news,u.oneCell'=true) (BQ:n+m<=cap) (EP:n*k+news.length<=cur.size):
  (Builtin.append_ #[t,t] ty #[.slice (some ⟨g,0,none⟩) n cap, .slice (some a) m c]).run P w= .ok (.slice (some ⟨g,0,none⟩) (n+m) cap) (w.setRow g (cur.toList.take (n*k)++news++cur.toList.drop (n*k+news.length)).toArray):=by
 subst hk;have TR:=run_firstCells_some (P:=P) w i.size m a m c news hl Dh;have Ew:=run_storeCells_at P g (n*i.size) el news 0 cur w hg (by simpa using EP) h1;simp only[Nat.add_zero]at Ew;simp[Builtin.append_,run_underlying ht,sizeOf,typeInfo,hi,Builtin.lenOf,BQ,TR,Addr.add_lit,Ew]
theorem zxW{P:Program}(w:World)(t el ty:TypeId)(z:Value)(ht:P.underlying t=some (.slice el))(hv:∀w,(zeroValue el).run P w= .ok z w)(h1:∀u∈z.cells,u.oneCell'=true)(g o n c:Nat)(cur:Array Value)(hn:0<n)
  (hg:w.heap[g]?=some (.cells cur el (0,0))) (EP:o+n*z.cells.size<=cur.size):
  (Builtin.clear_ #[t] ty #[.slice (some ⟨g,o,none⟩) n c]).run P w= .ok (.tuple #[]) (w.setRow g (cur.toList.take o++(Builtin.zeroCells z.cells n).toList++cur.toList.drop (o+(Builtin.zeroCells z.cells n).toList.length)).toArray):=by
 have Ew:=run_storeCells_at P g o el (Builtin.zeroCells z.cells n).toList 0 cur w hg (by simpa[size_zeroCells]using EP) (λu hu=>by
  have hu:u∈Builtin.zeroCells z.cells n:=by simpa using hu
  unfold Builtin.zeroCells at hu;obtain⟨j,hj,rfl⟩:=Array.mem_map.1 hu;have hj:j<n*z.cells.size:=by simpa using hj
  have h0:0<z.cells.size:=by
   rcases Nat.eq_zero_or_pos z.cells.size with h|h
   ·rw[h]at hj;omega
   ·exact h
  rw[getElem!_pos z.cells _ (Nat.mod_lt _ h0)];exact h1 _ (Array.getElem_mem _))
 simp only[Nat.add_zero]at Ew;obtain⟨m,rfl⟩:∃m,n=m+1:=⟨n-1,by omega⟩
 simp[Builtin.clear_,run_underlying ht,hv,Ew]
theorem zpE{P:Program}{ops:Array Oper}{o:Oper}{a:Act}{w:World}{K:Act->World->Prop}{Q:Exit->Act->World->Prop}{E:Prop}
  (hg:o.guard=none) (s x:Operand) (t:TypeId) (AW:o.op=Op.call {callee:=Callee.builtin Builtin.append,args:= #[s,x],argTypes:= #[t,t]})
  (v u:Value) (hs:a.eval s=v) (hx:a.eval x=u) {v':Value} {w':World} (hr:∀ty,(Builtin.append_ #[t,t] ty #[v,u]).run P w= .ok v' w') (hK:K (a.put o.dst v') w'):
  if Region.wanted o (yielded ops a.tmps)=true then Oper.wp P o a w K Q else E:=by
 have hw:Region.wanted o (yielded ops a.tmps)=true:=by simp[Region.wanted,hg]
 rw[if_pos hw];unfold Oper.wp;simp[execOp,AW,resolve,invoke,builtin,hs,hx,hr,Result.andThen];exact hK
def fB(P:Program)(f:Nat)(el:TypeId)(k:Nat):Prop:=
 ∀(w:World) (n i j g cap:Nat) (C:Array Value) (cs:List Value),Dg w el k g cap C n cs->i<j->j<=n->(∀u∈cs,u.oneCell'=true)->
  Calls P f #[.slice (some ⟨g,0,none⟩) n cap, .int .i64 i, .int .i64 j] w λe w'=> ∃C',e= .returned (.slice (some ⟨g,0,none⟩) (n-(j-i)) cap)/\Dg w' el k g cap C' (n-(j-i)) (cs.take (i*k)++cs.drop (j*k))/\Mod [g] w w'
def fJ(P:Program)(sg:BY)(f:Nat)(t it el K:Nat)(l:List DT):Bool:=
 match P.funcs[f]?,sg f with
 |some fn,some s=>(match s.b8,s.res,s.ft,s.lo with
  | [.va [true], .ro, .ro],[true],[],[]=>true
  |_,_,_,_=>false)&&fn.body.isSome&& !(fn.name== "runtime.NumGoroutine")&&fn.params.toList==[t,it,it]&&(Du fn s)==[t]&&fn.nfree==0&& !Am P t&&Bf P t==[t]&&CX P t==some el&& !Cc P el&&KA (DF P t) el K l&&F0 P t [true]&&fn.params.size==3
 |_,_=>false
theorem zCp{f t it el K:Nat}{l:List DT}(hk:fJ Tryz.prog B3 f t it el K l=true)(B5:∀r,Hy Tryz.prog B3 f r=true)(JF:fB Tryz.prog f el K)(xs:List AV)(i j:Int)(h0:0<=i)(h1:i<j)(h2:j<=xs.length):
  Co Tryz.prog B3 f [.sl xs, .int .i64 i, .int .i64 j] (.sl (xs.take i.toNat++xs.drop j.toNat)):=by
 unfold fJ at hk;split at hk
 ·rename_i fn s hf hs;simp only[Ab,Bc,AM]at hk;obtain⟨⟨⟨⟨⟨⟨⟨⟨⟨⟨⟨⟨g1,g2⟩,g3⟩,g4⟩,g5⟩,g6⟩,g7⟩,g8⟩,g9⟩,g10⟩,g11⟩,g12⟩,g13⟩:=hk;have g11:=Nz g11;obtain⟨hm,hr,CA,BT⟩:s.b8=[.va [true], .ro, .ro]/\s.res=[true]/\s.ft=[]/\s.lo=[]:=by
   split at g1
   ·rename_i a b c d;exact⟨a,b,c,d⟩
   ·cases g1
  unfold Co;rw[if_pos (KC f s hs)];refine⟨s,hs,fn,hf,g2,g3,by have:=B5 (xs.take i.toNat++xs.drop j.toNat);unfold Hy at this;rw[hf,hs]at this;exact this,by simp[g6,g13],by simp[CA],λw vs rf lf A9 Ah hd _ B6 D1=> ?_⟩;rw[g4,CA,AB,hm,BT]at Ah;cases Ah with
  |lent h _ _ _=>cases h
  | @cons _ _ _ _ v1 vs1 _ _ f1 k1 rf1 lf1 BL a1 Ah=>
   cases Ah with
   |lent h _ _ _=>cases h
   | @cons _ _ _ _ v2 vs2 _ _ f2 k2 rf2 lf2 Bb a2 Ah=>
    cases Ah with
    |lent h _ _ _=>cases h
    | @cons _ _ _ _ v3 vs3 _ _ f3 k3 rf3 lf3 Hl a3 Ah=>
     cases Ah;obtain⟨rfl,r1⟩:=Zx g7 g8 g9 g10 g11 a1;obtain⟨a2,rfl⟩:Rd w [v2] [AV.int .i64 i] f2/\k2=[]:=a2;obtain⟨us,rfl2,hI,a2⟩:=NU a2;obtain⟨rfl,rfl⟩:=NK a2;cases rfl2;obtain⟨a3,rfl⟩:Rd w [v3] [AV.int .i64 j] f3/\k3=[]:=a3;obtain⟨us,rfl3,hJ,a3⟩:=NU a3;obtain⟨rfl,rfl⟩:=NK a3;cases rfl3;obtain⟨p0,pl,⟨a,rfl,e1,rfl⟩|⟨g,cap,C,xs',N,rfl,e1,rfl,d1,d2,d3,d4,d5,d6,d7⟩⟩:=r1.inv
     ·cases e1;simp at h2;omega
     cases e1;rw[Av.ax]at d7 pl;have hR:Dg w el K g cap C xs.length (C.toList.take (xs.length*K)):=⟨d2,d3,d1,d4,rfl⟩
     have hc:=JF w xs.length i.toNat j.toNat g cap C _ hR (by omega) (by omega) d6;rw[show((i.toNat:Nat):Int)=i by omega,show((j.toNat:Nat):Int)=j by omega]at hc;refine hc.mono ?_;rintro e w' ⟨C',rfl,⟨z1,z2,z3,z4,z5⟩,Bj⟩;have Eb:(g::N).Nodup:=by simpa using B6
     have cH:g∉N:=(List.nodup_cons.1 Eb).1;have fN:=d7.frame (w':=w') λb hb=>Bj.block b (d7.inb b hb) (λh=>by rw[List.mem_singleton]at h;subst h;exact cH hb);obtain⟨N1,N2',rfl,c1,_⟩:=fN.cut pl d5 (show i.toNat<=xs.length by omega);obtain⟨N1',N2,e3,_,c2⟩:=fN.cut pl d5 (show j.toNat<=xs.length by omega);have hlen:(xs.take i.toNat++xs.drop j.toNat).length=xs.length-(j.toNat-i.toNat):=by simp only[AH,Ar,BC];omega
     obtain⟨NA,NB,NC,eN,k1,_,k3⟩:=fN.split (i.toNat*K) ((j.toNat-i.toNat)*K);have ti:=Sh d5 (show i.toNat<=xs.length by omega);have tj:=Sh d5 (show j.toNat<=xs.length by omega);have Ei:i.toNat*K+(j.toNat-i.toNat)*K=j.toNat*K:=by rw[<-Nat.add_mul,show i.toNat+(j.toNat-i.toNat)=j.toNat by omega]
     have eA:(Bq xs.length l).take (i.toNat*K)=Bq i.toNat l:=by
      have hli:(Bq i.toNat l).length=i.toNat*K:=by rw[K6,pl]
      rw[mL l (show i.toNat<=xs.length by omega),<-hli];exact List.take_left
     have eC:(Bq xs.length l).drop (j.toNat*K)=Bq (xs.length-j.toNat) l:=by
      have hlj:(Bq j.toNat l).length=j.toNat*K:=by rw[K6,pl]
      rw[mL l (show j.toNat<=xs.length by omega),<-hlj];exact List.drop_left
     rw[eA,<-ti.1]at k1;rw[Ei,eC,<-tj.2]at k3;have BZ:DC w' (Bq (xs.length-(j.toNat-i.toNat)) l) (C'.toList.take ((xs.length-(j.toNat-i.toNat))*K)) (Ao (xs.take i.toNat++xs.drop j.toNat)) (NA++NC):=by rw[<-z5,Sp,show xs.length-(j.toNat-i.toNat)=i.toNat+(xs.length-j.toNat) by omega,K7];exact k1.app k3
     have M4:(g::(NA++NC)).Sublist (g::(N1++N2')):=by rw[eN];refine List.Sublist.cons_cons _ ?_;rw[List.append_assoc];exact List.Sublist.append (List.Sublist.refl _) (List.sublist_append_right _ _)
     have Bk:DC w' [.row el K (Av.of l)] [.slice (some ⟨g,0,none⟩) (xs.length-(j.toNat-i.toNat)) cap] [.sl (xs.take i.toNat++xs.drop j.toNat)] (g::(NA++NC)):=by
      have:=DC.row (w:=w') (e:=el) (z:=K) (l:=Av.of l) (g:=g) (cap:=cap) (C:=C') (ys:=xs.take i.toNat++xs.drop j.toNat) (N1:=NA++NC) (ts:=[]) (vs:=[]) (xs:=[]) (N:=[]) p0 (by rw[Av.ax];exact pl) z3 (by rw[hlen];exact z1) z2 z4 (λy hy=> ?_) (by
       rw[hlen,<-z5];intro u hu;rcases Ac.1 hu with hu|hu
       ·exact d6 u (Bt hu)
       ·exact d6 u (BH hu)) (by rw[hlen,Av.ax];exact BZ) .nil
      ·rw[hlen]at this;simpa using this
      ·rcases Ac.1 hy with hy|hy
       ·exact d5 y (Bt hy)
       ·exact d5 y (BH hy)
     refine⟨_,rfl,⟨⟨_,[],[],g::(NA++NC),[],[],rfl,?_,?_,?_,?_,by simp⟩,Bj.weaken λb hb=> .inl (by simp at hb;simp[hb])⟩⟩
     ·rw[g5];show DY Tryz.prog w' t s.res _ _ [] _;unfold DY;rw[hr,if_pos g12];refine⟨[.slice (some ⟨g,0,none⟩) (xs.length-(j.toNat-i.toNat)) cap],[.sl (xs.take i.toNat++xs.drop j.toNat)],by rw[g7];simp,?_⟩;rw[g8];have:=Cz.deep (P:=Tryz.prog) (t:=t) (ts:=[]) (fl:=[true]) (us:=[]) (ys:=[]) (rf:=[]) (hs:=[]) rfl g9 g10 g11 Bk .nil;simpa using this
     ·rw[g4,CA,AB,hm];exact .va rfl (.ro rfl (.ro rfl .nil))
     ·rw[AB];exact Eb.sublist M4
     ·intro b hb;rw[AB]at hb;have Cl:=M4.subset hb;refine⟨.inl (by simpa using Cl),?_⟩;have Ax:b<w.heap.size:=by
       rcases Ae.1 Cl with rfl|Cl
       ·exact De d1
       ·exact d7.inb b Cl
      have:=Bj.size;omega
 ·cases hk
noncomputable def V3{α:Type}(xs:List α)(i j:Int):Option (List α):=req (0<=i/\i<j/\j<=xs.length) (some (xs.take i.toNat++xs.drop j.toNat))
theorem zyQ{f t it el K:Nat}{l:List DT}(hk:fJ Tryz.prog B3 f t it el K l=true)(B5:∀r,Hy Tryz.prog B3 f r=true)(JF:fB Tryz.prog f el K){α:Type}{av:α->AV}{xs r:List α}{i j:Int}(h:V3 xs i j=some r):
  Co Tryz.prog B3 f [.sl (xs.map av), .int .i64 i, .int .i64 j] (.sl (r.map av)):=by
 obtain⟨⟨h0,h1,h2⟩,h⟩:=F3 h;cases h;have:=zCp hk B5 JF (xs.map av) i j h0 h1 (by simpa using h2);simpa[List.map_append,List.map_take,List.map_drop]using this
theorem z8{f t it el K:Nat}{l:List DT}(hk:fP Tryz.prog B3 f t it el K l=true)(B5:∀r,Hy Tryz.prog B3 f r=true)(Fo:Ob Tryz.prog f el K){α:Type}{av:α->AV}{xs ys r:List α}{i:Int}(h:Ib xs i ys=some r):
  Co Tryz.prog B3 f [.sl (xs.map av), .int .i64 i, .sl (ys.map av)] (.sl (r.map av)):=by
 obtain⟨⟨h0,h1,h2,h3⟩,h⟩:=F3 h;cases h;have:=zBB hk B5 Fo (xs.map av) (ys.map av) i h0 (by simpa using h1) (by cases ys with|nil=>simp at h2|cons=>simp) (by simpa using h3);simpa[List.map_append,List.map_take,List.map_drop]using this
class Iv(P:Program)(el K:Nat)(st it ov:outParam Nat):Prop where
 u:P.underlying st=some (.slice el)
 v:P.underlying it=some (.int .i64)
 i:∃i z,P.info? el=some i/\i.size=K/\i.zero=some z/\z.cells.size=K/\i.bytes<=1000/\0<K
 o:∃fn bt,P.funcs[ov]?=some fn/\(fn.name== "runtime.NumGoroutine")=false/\fn.body.isNone=true/\Extern.findNext fn=none/\Extern.find fn=some (Extern.SlicesOverlaps.overlaps #[st,st] #[bt])
def sC(P:Program)(el K:Nat):Bool:=match P.info? el with
 |some i=>(match i.zero with|some z=>i.size==K&&z.cells.size==K&&decide (i.bytes<=1000)&&decide (0<K)|none=>false)
 |none=>false
theorem oL{P:Program}{el K:Nat}(h:sC P el K=true):∃i z,P.info? el=some i/\i.size=K/\i.zero=some z/\z.cells.size=K/\i.bytes<=1000/\0<K:=by
 unfold sC at h;split at h
 ·rename_i i hi;split at h
  ·rename_i z hz;simp only[Ab,AM,AI]at h;exact⟨i,z,hi,h.1.1.1,hz,h.1.1.2,h.1.2,h.2⟩
  ·cases h
 ·cases h
def Xy(P:Program)(f el K:Nat):Prop:= ∀(w:World) (v:Value) (n:Nat) (cs:List Value) (own:List Nat) (vb vc m:Nat) (VC:Array Value) (vs:List Value),cs.length=n*K->
 ((n=0/\ ∃q,v= .slice q 0 0)\/ ∃g cap C,v= .slice (some ⟨g,0,none⟩) n cap/\Dg w el K g cap C n cs/\g∈own)->Dg w el K vb vc VC m vs->0<m->(n+m)*1000<=140737488355328->(∀u∈vs,u.oneCell'=true)->
 Calls P f #[v, .int .i64 n, .slice (some ⟨vb,0,none⟩) m vc] w λe w'=> ∃u,e= .returned u/\O6 w w' el K own u (n+m) (cs++vs)
def XB(P:Program)(f el K:Nat):Prop:= ∀(w:World) (n i g cap:Nat) (C:Array Value) (cs:List Value) (own:List Nat) (vb vc m:Nat) (VC:Array Value) (vs:List Value),Dg w el K g cap C n cs->i<n->cap<n+m->Dg w el K vb vc VC m vs->0<m->(n+m)*1000<=140737488355328->
 (∀u∈vs,u.oneCell'=true)->(∀u∈cs,u.oneCell'=true)->
 Calls P f #[.slice (some ⟨g,0,none⟩) n cap, .int .i64 i, .slice (some ⟨vb,0,none⟩) m vc] w λe w'=> ∃u,e= .returned u/\O6 w w' el K own u (n+m) (cs.take (i*K)++vs++cs.drop (i*K))
def Xz(P:Program)(f el K:Nat):Prop:= ∀(w:World) (n i g cap:Nat) (C:Array Value) (cs:List Value) (own:List Nat) (vb vc m:Nat) (VC:Array Value) (vs:List Value),Dg w el K g cap C n cs->g∈own->i<n->n+m<=cap->vb≠g->Dg w el K vb vc VC m vs->0<m->
 (∀u∈vs,u.oneCell'=true)->(∀u∈cs,u.oneCell'=true)->
 Calls P f #[.slice (some ⟨g,0,none⟩) n cap, .int .i64 i, .slice (some ⟨vb,0,none⟩) m vc] w λe w'=> ∃u,e= .returned u/\O6 w w' el K own u (n+m) (cs.take (i*K)++vs++cs.drop (i*K))
theorem nA{P:Program}{f el K:Nat}(h1:Xy P f el K)(h2:XB P f el K)(h3:Xz P f el K):Ob P f el K:=by
 intro w v n i cs own vb vc m VC vs Aw AT Ch hv Qr hm hb GL GK;by_cases he:i=n
 ·subst he;refine(h1 w v i cs own vb vc m VC vs Aw AT hv hm hb GL).mono ?_;rintro e w' ⟨u,rfl,h⟩;refine⟨u,rfl,?_⟩;rw[List.take_of_length_le (by omega),List.drop_eq_nil_of_le (by omega),AB];exact h
 ·rcases AT with⟨rfl,_⟩|⟨g,cap,C,rfl,hr,hg⟩
  ·omega
  ·by_cases hc:n+m<=cap
   ·exact h3 w n i g cap C cs own vb vc m VC vs hr hg (by omega) hc (Qr g hg) hv hm GL GK
   ·exact h2 w n i g cap C cs own vb vc m VC vs hr (by omega) (by omega) hv hm hb GL GK
theorem zBc{P:Program}{el K st it ov:Nat}[hI:Iv P el K st it ov]{w:World}{v:Value}{n:Nat}{cs:List Value}{own:List Nat}{vb vc m:Nat}{VC:Array Value}{vs:List Value}(Aw:cs.length=n*K)
  (AT:(n=0/\ ∃q,v= .slice q 0 0)\/ ∃g cap C,v= .slice (some ⟨g,0,none⟩) n cap/\Dg w el K g cap C n cs/\g∈own) (hv:Dg w el K vb vc VC m vs) (hm:0<m) (hb:(n+m)*1000<=140737488355328) (GL:∀u∈vs,u.oneCell'=true):
  ∃v' w1,(Builtin.append_ #[st,st] st #[v, .slice (some ⟨vb,0,none⟩) m vc]).run P w= .ok v' w1/\O6 w w1 el K own v' (n+m) (cs++vs):=by
 obtain⟨i0,z0,hi,hs,hz,CU,EB,hK⟩:=hI.i;have Dm:Src w i0.size (some ⟨vb,0,none⟩) m vs:= .inr ⟨_,rfl,by rw[hs];exact hv.len,λj u hj=>hv.cell 0 j u (by simpa using hj),GL⟩;obtain⟨v',w1,hr,AL⟩:=PN (P:=P) w st st el i0 z0 hI.u hi hz (by rw[CU,hs]) (by omega) (λb=>b∈own) v n cs (by rw[hs];exact Aw)
  (by
   rcases AT with h|⟨g,cap,C,rfl,⟨h1,h2,h3,h4,h5⟩,h6⟩
   ·exact .inl h
   ·exact .inr ⟨g,cap,C,rfl,h1,h2,h3,by rw[hs];exact h4,by rw[hs];exact h5,h6⟩)
  (some ⟨vb,0,none⟩) m vc vs Dm (by simp only[maxLen];omega) (by have:=Nat.mul_le_mul_left (n+m) EB;omega)
 refine⟨v',w1,hr,?_⟩;rcases AL with⟨_,_,h⟩|⟨g,cap,C,rfl,h1,h2,h3,h4,h5,h6,h7⟩
 ·omega
 ·refine⟨g,cap,C,rfl,⟨h1,h2,h3,by rw[hs]at h4;exact h4,by rw[hs]at h5;exact h5.symm⟩,?_,h7.symm.imp id λh=>by omega⟩;refine⟨h6.os,h6.tape,h6.output,h6.size,λb hb hn=>h6.block b hb λe=> ?_⟩;cases e;rcases h7 with h7|h7
  ·omega
  ·exact hn h7
theorem zCl{P:Program}{el K st it ov:Nat}[hI:Iv P el K st it ov]{w:World}{n i g cap:Nat}{C:Array Value}{cs:List Value}(own:List Nat){vb vc m:Nat}{VC:Array Value}{vs:List Value}(AT:Dg w el K g cap C n cs)(Ch:i<n)(BQ:cap<n+m)
  (hv:Dg w el K vb vc VC m vs) (hm:0<m) (hb:(n+m)*1000<=140737488355328) (GL:∀u∈vs,u.oneCell'=true) (GK:∀u∈cs,u.oneCell'=true):
  ∃(G:Nat) (ROW ROW2 ROW3:Array Value),n+m<=G/\G<=9223372036854775807/\
   (∀ty,(Builtin.append_ #[st,it] ty #[.slice (some ⟨g,0,none⟩) i cap, .int .i64 ((n:Int)+(m:Int)-(i:Int))]).run P w= .ok (.slice (some ⟨w.heap.size,0,none⟩) (n+m) G) (w.drew.alloc (.cells ROW el)))/\
   (∀(W:World),W.heap=(w.alloc (.cells ROW el)).heap-> ∀ty dc,(Builtin.copy_ #[st,st] ty #[.slice (some ⟨w.heap.size,i*K,none⟩) (n+m-i) dc, .slice (some ⟨vb,0,none⟩) m vc]).run P W= .ok (goInt m) (W.setRow w.heap.size ROW2))/\
   (∀(W:World),W.heap=((w.alloc (.cells ROW el)).setRow w.heap.size ROW2).heap-> ∀ty dc sc,(Builtin.copy_ #[st,st] ty #[.slice (some ⟨w.heap.size,(i+m)*K,none⟩) (n+m-(i+m)) dc, .slice (some ⟨g,i*K,none⟩) (n-i) sc]).run P W= .ok (goInt ((n-i:Nat):Int)) (W.setRow w.heap.size ROW3))/\
   (∀W:World,W.os=w.os->W.tape=w.tape->W.output=w.output->W.heap=(((w.alloc (.cells ROW el)).setRow w.heap.size ROW2).setRow w.heap.size ROW3).heap->O6 w W el K own (.slice (some ⟨w.heap.size,0,none⟩) (n+m) G) (n+m) (cs.take (i*K)++vs++cs.drop (i*K)))/\
   ((w.alloc (.cells ROW el)).drew).heap=(w.alloc (.cells ROW el)).heap/\(((w.alloc (.cells ROW el)).drew.setRow w.heap.size ROW2).drew).heap=((w.alloc (.cells ROW el)).setRow w.heap.size ROW2).heap:=by
 obtain⟨i0,z0,hi,hs,hz,CU,EB,hK⟩:=hI.i;have Aw:=AT.len;have Ex:=hv.len;have TE:=AT;obtain⟨LI,F6,hg,JA,BD⟩:=TE;have JO:g<w.heap.size:=De hg;have hvw:vb<w.heap.size:=De hv.2.2.1;have Bo:(P.info? el).map (·.size)=some K:=by rw[hi];simp[hs]
 have pQ:i+(n+m-i)=n+m:=by omega
 have WX:(n+m)*i0.bytes<=140737488355328:=Nat.le_trans (Nat.mul_le_mul_left _ EB) hb;have WY:(n+m-i)*i0.bytes<=140737488355328:=Nat.le_trans (By _ (by omega)) WX;have cO:i*K<=n*K:=By _ (by omega);have hold:(Builtin.firstCells i0.size i (.slice (some ⟨g,0,none⟩) i cap)).run P w.drew= .ok (cs.take (i*K)).toArray w.drew:=by
  rw[hs];exact run_firstCells_some w.drew K i ⟨g,0,none⟩ i cap (cs.take (i*K)) (by rw[Ar];omega) (λj v hj=>by
   rw[List.getElem?_take]at hj;split at hj
   ·exact AT.cell 0 j v (by simpa using hj)
   ·cases hj)
 have Qp:∀ty,(Builtin.append_ #[st,it] ty #[.slice (some ⟨g,0,none⟩) i cap, .int .i64 ((n:Int)+(m:Int)-(i:Int))]).run P w=
   .ok (.slice (some ⟨w.heap.size,0,none⟩) (n+m) (grownCap w (n+m) cap el)) (w.drew.alloc (.cells ((cs.take (i*K)).toArray++Builtin.zeroCells z0.cells (n+m-i)++Builtin.zeroCells z0.cells (grownCap w (n+m) cap el-(n+m))) el)):=λty=>by
  have h:=Lib.run_append_grow_zeros w st it ty el i0 z0 .i64 .i64 hI.u hI.v hi hz (some ⟨g,0,none⟩) i cap (cs.take (i*K)) hold (n+m-i) (by omega) (by omega) (by omega) (by omega) (by omega) (by rw[pQ];exact growslice_fits BQ WX);rw[pQ]at h;rw[show(n:Int)+(m:Int)-(i:Int)=((n+m-i:Nat):Int) by omega];exact h
 obtain⟨G,hG⟩:∃G,G=grownCap w (n+m) cap el:=⟨_,rfl⟩
 obtain⟨ROW,Om⟩:∃ROW:Array Value,ROW=(cs.take (i*K)).toArray++Builtin.zeroCells z0.cells (n+m-i)++Builtin.zeroCells z0.cells (G-(n+m)):=⟨_,rfl⟩
 have WR:n+m<=G:=by rw[hG];exact grownCap_ge w _ _ _
 have To:G<=maxLen:=by rw[hG];exact grownCap_le_maxLen w (n+m) cap el (by unfold maxLen;omega)
 rw[<-hG]at Qp;rw[<-Om]at Qp;have e1:(i+m)*K=i*K+m*K:=Nat.add_mul ..;have e2:(n+m)*K=n*K+m*K:=Nat.add_mul ..;have e3:(n+m-i)*K=n*K+m*K-i*K:=by rw[Nat.sub_mul,e2]
 have e4:(n-i)*K=n*K-i*K:=Nat.sub_mul ..;have e5:(G-(n+m))*K=G*K-(n*K+m*K):=by rw[Nat.sub_mul,e2]
 have e6:n*K+m*K<=G*K:=by rw[<-e2];exact By _ WR
 have hRs:ROW.size=G*K:=by rw[Om];simp only[Array.size_append,List.size_toArray,Ar,size_zeroCells,CU];omega
 obtain⟨ROW2,Tu⟩:∃R:Array Value,R=(ROW.toList.take (i*K)++vs++ROW.toList.drop (i*K+vs.length)).toArray:=⟨_,rfl⟩
 obtain⟨ROW3,bF⟩:∃R:Array Value,R=(ROW2.toList.take ((i+m)*K)++cs.drop (i*K)++ROW2.toList.drop ((i+m)*K+(cs.drop (i*K)).length)).toArray:=⟨_,rfl⟩
 have bE:ROW2.size=G*K:=by rw[Tu];simp only[List.size_toArray,AH,Ar,BC,BG];omega
 have bG:ROW3.size=G*K:=by rw[bF];simp only[List.size_toArray,AH,Ar,BC,BG];omega
 obtain⟨N,hN⟩:∃N,N=w.heap.size:=⟨_,rfl⟩
 have hA:(w.alloc (.cells ROW el)).heap[N]?=some (.cells ROW el (0,0)):=by rw[hN];exact heap_alloc_new w _
 have hO:∀k,k<N->(w.alloc (.cells ROW el)).heap[k]?=w.heap[k]?:=λk hk=>Below.heap_alloc w _ k (by omega);have hB:((w.alloc (.cells ROW el)).setRow N ROW2).heap[N]?=some (.cells ROW2 el (0,0)):=setRow_heap _ _ _ _ _ _ hA;have o9:∀k,k<N->((w.alloc (.cells ROW el)).setRow N ROW2).heap[k]?=w.heap[k]?:=λk hk=>by rw[setRow_other _ _ _ _ (by omega)];exact hO k hk
 rw[<-hN]at Qp ⊢;refine⟨G,ROW,ROW2,ROW3,WR,To,Qp,λW hW ty dc=> ?_,λW hW ty dc sc=> ?_,λW w1 w2 w3 hW=> ?_,rfl,rfl⟩
 ·have h:=Y3 (P:=P) W st st ty el K N (i*K) (n+m-i) dc ⟨vb,0,none⟩ m vc ROW el vs hI.u Bo (by rw[hW];exact hA) (by rw[Ex,show Nat.min m (n+m-i)=m from Nat.min_eq_left (by omega)])
   (λj v hj=>by rw[World.cell?_of_block (w:=w) (by rw[Addr.add_lit,hW];exact hO vb (by omega))];exact hv.cell 0 j v (by simpa using hj)) (by rw[hRs,Ex];omega) GL
  rw[show Nat.min m (n+m-i)=m from Nat.min_eq_left (by omega),<-Tu]at h;exact h
 ·have h:=Y3 (P:=P) W st st ty el K N ((i+m)*K) (n+m-(i+m)) dc ⟨g,i*K,none⟩ (n-i) sc ROW2 el (cs.drop (i*K)) hI.u Bo (by rw[hW];exact hB) (by rw[BC,Aw,show Nat.min (n-i) (n+m-(i+m))=n-i from Nat.min_eq_left (by omega)];omega)
   (λj v hj=>by rw[World.cell?_of_block (w:=w) (by rw[Addr.add_lit,hW];exact o9 g (by omega))];exact AT.cell (i*K) j v hj) (by rw[bE,BC,Aw];omega) (λv hv=>GK v (BH hv))
  rw[show Nat.min (n-i) (n+m-(i+m))=n-i from Nat.min_eq_left (by omega),<-bF]at h;exact h
 ·refine⟨N,G,ROW3,rfl,⟨WR,To,by rw[hW];exact setRow_heap _ _ _ _ _ _ hB,bG,?_⟩,⟨w1,w2,w3,by rw[hW];simp,λk hk _=>by rw[hW,setRow_other _ _ _ _ (by omega)];exact o9 k (by omega)⟩, .inr (by omega)⟩;have h:=two ((Builtin.zeroCells z0.cells (n+m-i)).toList++(Builtin.zeroCells z0.cells (G-(n+m))).toList) cs vs (i*K) (m*K) (n*K) ROW.toList (by rw[Om];simp) Aw cO Ex (by simp only[AH,BG,size_zeroCells,CU];omega);rw[bF,Tu,Nat.add_mul n m,Nat.add_mul i m];exact h.symm
theorem zCw{P:Program}{el K st it ov:Nat}[hI:Iv P el K st it ov]{w:World}{n i g cap:Nat}{C:Array Value}{cs:List Value}{own:List Nat}{vb vc m:Nat}{VC:Array Value}{vs:List Value}(AT:Dg w el K g cap C n cs)(Eh:g∈own)(Ch:i<n)(BQ:n+m<=cap)(Qr:vb≠g)
  (hv:Dg w el K vb vc VC m vs) (hm:0<m) (GL:∀u∈vs,u.oneCell'=true) (GK:∀u∈cs,u.oneCell'=true):
  ∃C1 C2:Array Value,(∀lb cb,(callFunc ov #[.slice (some ⟨vb,0,none⟩) m vc, .slice (some ⟨g,(i+m)*K,none⟩) lb cb]).run P w= .ok (.value (.bool false)) w)/\
   (∀(W:World),W.heap=w.heap-> ∀ty dc sc,(Builtin.copy_ #[st,st] ty #[.slice (some ⟨g,(i+m)*K,none⟩) (n+m-(i+m)) dc, .slice (some ⟨g,i*K,none⟩) (n+m-i) sc]).run P W= .ok (goInt ((n-i:Nat):Int)) (W.setRow g C1))/\
   (∀(W:World),W.heap=(w.setRow g C1).heap-> ∀ty dc,(Builtin.copy_ #[st,st] ty #[.slice (some ⟨g,i*K,none⟩) (n+m-i) dc, .slice (some ⟨vb,0,none⟩) m vc]).run P W= .ok (goInt m) (W.setRow g C2))/\
   (∀W:World,W.os=w.os->W.tape=w.tape->W.output=w.output->W.heap=((w.setRow g C1).setRow g C2).heap->O6 w W el K own (.slice (some ⟨g,0,none⟩) (n+m) cap) (n+m) (cs.take (i*K)++vs++cs.drop (i*K)))/\
   (w.drew).heap=w.heap/\(w.drew.setRow g C1).heap=(w.setRow g C1).heap:=by
 obtain⟨i0,z0,hi,hs,hz,CU,EB,hK⟩:=hI.i;obtain⟨fn,bt,f1,f2,f3,f4,f5⟩:=hI.o;have Aw:=AT.len;have Ex:=hv.len;have TE:=AT;obtain⟨LI,F6,hg,JA,BD⟩:=TE;have JO:g<w.heap.size:=De hg;have Bo:(P.info? el).map (·.size)=some K:=by rw[hi];simp[hs]
 have Ut:=hv.2.2.1;have cO:i*K<=n*K:=By _ (by omega);have e1:(i+m)*K=i*K+m*K:=Nat.add_mul ..;have e2:(n+m)*K=n*K+m*K:=Nat.add_mul ..;have e3:(n+m-i)*K=n*K+m*K-i*K:=by rw[Nat.sub_mul,e2]
 have e4:(n-i)*K=n*K-i*K:=Nat.sub_mul ..;have e6:n*K+m*K<=cap*K:=by rw[<-e2];exact By _ BQ
 have e7:0<cap*K:=Nat.mul_pos (by omega) hK;obtain⟨C1,Ix⟩:∃R:Array Value,R=(C.toList.take ((i+m)*K)++cs.drop (i*K)++C.toList.drop ((i+m)*K+(cs.drop (i*K)).length)).toArray:=⟨_,rfl⟩
 obtain⟨C2,MF⟩:∃R:Array Value,R=(C1.toList.take (i*K)++vs++C1.toList.drop (i*K+vs.length)).toArray:=⟨_,rfl⟩
 have Lp:C1.size=cap*K:=by rw[Ix];simp only[List.size_toArray,AH,Ar,BC,BG];omega
 have Lq:C2.size=cap*K:=by rw[MF];simp only[List.size_toArray,AH,Ar,BC,BG];omega
 have hB:(w.setRow g C1).heap[g]?=some (.cells C1 el (0,0)):=setRow_heap _ _ _ _ _ _ hg;have LH:Nat.min (n+m-i) (n+m-(i+m))=n-i:=by rw[show Nat.min (n+m-i) (n+m-(i+m))=n+m-(i+m)from Nat.min_eq_right (by omega)];omega
 refine⟨C1,C2,λlb cb=> ?_,λW hW ty dc sc=> ?_,λW hW ty dc=> ?_,λW w1 w2 w3 hW=> ?_,rfl,rfl⟩
 ·rw[run_callFunc_extern f1 f2 f3 f4 f5,Lib.run_overlaps_apart w st bt el hI.u K (λw=>by simp[Go.sizeOf,typeInfo,hi,hs]) ⟨vb,0,none⟩ ⟨g,(i+m)*K,none⟩ m vc lb cb Qr el el VC.size C.size (by simp[World.shape?,Ut]) (by simp[World.shape?,hg]) (by omega) (by simp[World.frozen?,Ut]) (by simp[World.frozen?,Ut])];rfl
 ·have h:=Y3 (P:=P) W st st ty el K g ((i+m)*K) (n+m-(i+m)) dc ⟨g,i*K,none⟩ (n+m-i) sc C el (cs.drop (i*K)) hI.u Bo (by rw[hW];exact hg) (by rw[BC,Aw,LH];omega)
   (λj v hj=>by rw[World.cell?_of_block (w:=w) (by rw[hW])];exact AT.cell (i*K) j v hj) (by rw[JA,BC,Aw];omega) (λv hv=>GK v (BH hv))
  rw[LH,<-Ix]at h;exact h
 ·have h:=Y3 (P:=P) W st st ty el K g (i*K) (n+m-i) dc ⟨vb,0,none⟩ m vc C1 el vs hI.u Bo (by rw[hW];exact hB) (by rw[Ex,show Nat.min m (n+m-i)=m from Nat.min_eq_left (by omega)])
   (λj v hj=>by rw[World.cell?_of_block (w:=w) (by rw[Addr.add_lit,hW];exact setRow_other _ _ _ _ (by simpa using Qr))];exact hv.cell 0 j v (by simpa using hj)) (by rw[Lp,Ex];omega) GL
  rw[show Nat.min m (n+m-i)=m from Nat.min_eq_left (by omega),<-MF]at h;exact h
 ·have no:∀k,¬k∈own->k≠g:=λk hn e=>hn (e▸Eh);refine⟨g,cap,C2,rfl,⟨BQ,F6,by rw[hW];exact setRow_heap _ _ _ _ _ _ hB,Lq,?_⟩,⟨w1,w2,w3,by rw[hW];simp,λk hk hn=>by rw[hW,setRow_other _ _ _ _ (by first|exact no k hn|exact(no k hn).symm),setRow_other _ _ _ _ (by first|exact no k hn|exact(no k hn).symm)]⟩, .inl Eh⟩;have h:=zFz C.toList cs vs (i*K) (m*K) (n*K) BD cO Ex (by rw[BG,JA];omega);rw[MF,Ix,Nat.add_mul n m,Nat.add_mul i m];exact h.symm
instance inf_Held:Iv Tryz.prog 108 5 48 3 285:=⟨Tryz.underlying48,Tryz.underlying3,oL (by kernel_rfl),_,4,Tryz.func285,by kernel_rfl,by kernel_rfl,by kernel_rfl,by kernel_rfl⟩
instance inf_Told:Iv Tryz.prog 53 3 49 3 307:=⟨Tryz.underlying49,Tryz.underlying3,oL (by kernel_rfl),_,4,Tryz.func307,by kernel_rfl,by kernel_rfl,by kernel_rfl,by kernel_rfl⟩
instance inf_Cell:Iv Tryz.prog 146 2 47 3 319:=⟨Tryz.underlying47,Tryz.underlying3,oL (by kernel_rfl),_,4,Tryz.func319,by kernel_rfl,by kernel_rfl,by kernel_rfl,by kernel_rfl⟩
set_option maxHeartbeats 16000000 in
theorem nN:Xy Tryz.prog 252 108 5/\Xy Tryz.prog 282 53 3/\Xy Tryz.prog 306 146 2:=by
 refine⟨?_,?_,?_⟩<;>(
  intro w v n cs own vb vc m VC vs Aw AT hv hm hb GL;obtain⟨v',w1,hr,fin⟩:=zBc (P:=Tryz.prog) Aw AT hv hm hb GL;have Xf: ¬((m:Int)=0):=by omega
  clear hv GL Aw;rcases AT with⟨rfl,_|⟨qb,qo,qs⟩,rfl⟩|⟨g,cap,C,rfl,_,_⟩<;>(
   first|go_enter Tryz.func252,Tryz.ntmps252|go_enter Tryz.func282,Tryz.ntmps282|go_enter Tryz.func306,Tryz.ntmps306
   go_wp2_with (at_builtin;refine Lib.wpList_append_run _ rfl _ _ _ _ rfl _ _ rfl rfl _ _ hr ?_)
   all_goals (go_ret;exact⟨_,rfl,fin⟩)))
set_option maxHeartbeats 16000000 in
theorem nD:XB Tryz.prog 252 108 5/\XB Tryz.prog 282 53 3/\XB Tryz.prog 306 146 2:=by
 refine⟨?_,?_,?_⟩<;>(
  intro w n i g cap C cs own vb vc m VC vs AT Ch BQ hv hm hb GL GK;obtain⟨G,ROW,ROW2,ROW3,WR,hG64,Qp,bV,TJ,fin,oY,aY⟩:=zCl (P:=Tryz.prog) own AT Ch BQ hv hm hb GL GK;obtain⟨LI,F6,hg,JA, -⟩:=AT;have JO:=De hg;have Xf: ¬((m:Int)=0):=by omega
  have Nc: ¬((i:Int)=(n:Int)):=by omega
  have hz3:(cap:Int)<(n:Int)+(m:Int):=by omega
  have hGi: ¬(G=i):=by omega
  have hGim: ¬(G=i+m):=by omega
  have TG: ¬(cap=i):=by omega
  have Qt:IntKind.i64.wrap ((i:Int)+(m:Int))=(i:Int)+(m:Int):=by rw[IntKind.wrap_i64];omega
  have Gh:(0:Int)<=(i:Int)+(m:Int):=by omega
  have cQ:i<=n:=by omega
  have Qq:((i:Int)+(m:Int)).toNat=i+m:=by omega
  have Ot:(i:Int)<=(n:Int):=by omega
  first|go_enter Tryz.func252,Tryz.ntmps252|go_enter Tryz.func282,Tryz.ntmps282|go_enter Tryz.func306,Tryz.ntmps306
  go_wp2_with (first
   |(at_builtin;refine Lib.wpList_append_run _ rfl _ _ _ _ rfl _ _ rfl rfl _ _ (Qp _) ?_)
   |(at_builtin;refine jJ _ rfl _ _ _ _ rfl _ _ rfl rfl (bV _ oY _ _) ?_)
   |(at_builtin;refine jJ _ rfl _ _ _ _ rfl _ _ rfl rfl (TJ _ rfl _ _ _) ?_))
  go_region_law (refine wM rfl _ _ _ _ rfl _ _ (by simp[Act.eval,Act.put]) (by simp[Act.eval,Act.put]) (TJ _ aY _ (G-(i+m)) (cap-i)) ?_)
  go_wp2
  go_ret
  exact⟨_,rfl,fin _ rfl rfl rfl rfl⟩)
set_option maxHeartbeats 16000000 in
theorem mF:Xz Tryz.prog 252 108 5/\Xz Tryz.prog 282 53 3/\Xz Tryz.prog 306 146 2:=by
 refine⟨?_,?_,?_⟩<;>(
  intro w n i g cap C cs own vb vc m VC vs AT Eh Ch BQ Qr hv hm GL GK;obtain⟨C1,C2,dM,bT,bU,fin,aY,hF2⟩:=zCw (P:=Tryz.prog) AT Eh Ch BQ Qr hv hm GL GK;obtain⟨LI,TB,hg,JA, -⟩:=AT;have TB:cap<=9223372036854775807:=TB;have JO:=De hg;have Xf: ¬((m:Int)=0):=by omega
  have Nc: ¬((i:Int)=(n:Int)):=by omega
  have hz3: ¬((cap:Int)<(n:Int)+(m:Int)):=by omega
  have TG: ¬(cap=i):=by omega
  have hcim: ¬(cap=i+m):=by omega
  have Qt:IntKind.i64.wrap ((i:Int)+(m:Int))=(i:Int)+(m:Int):=by rw[IntKind.wrap_i64];omega
  have Gh:(0:Int)<=(i:Int)+(m:Int):=by omega
  have cQ:i<=n:=by omega
  have Qq:((i:Int)+(m:Int)).toNat=i+m:=by omega
  have Ot:(i:Int)<=(n:Int):=by omega
  have hb4:(i:Int)<=(n:Int)+(m:Int):=by omega
  clear hg hv
  first|go_enter Tryz.func252,Tryz.ntmps252|go_enter Tryz.func282,Tryz.ntmps282|go_enter Tryz.func306,Tryz.ntmps306
  go_wp2_with (simp only[dM])
  go_region_law (refine wM rfl _ _ _ _ rfl _ _ (by simp[Act.eval,Act.put]) (by simp[Act.eval,Act.put]) (bT _ aY _ (cap-(i+m)) (cap-i)) ?_)
  go_wp2_with (at_builtin;refine jJ _ rfl _ _ _ _ rfl _ _ rfl rfl (bU _ hF2 _ _) ?_)
  go_ret
  exact⟨_,rfl,fin _ rfl rfl rfl rfl⟩)
theorem zBH:Ob Tryz.prog 252 108 5:=nA nN.1 nD.1 mF.1
theorem zBG:Ob Tryz.prog 282 53 3:=nA nN.2.1 nD.2.1 mF.2.1
theorem zBe:Ob Tryz.prog 306 146 2:=nA nN.2.2 nD.2.2 mF.2.2
theorem zAP:∃i z,Tryz.prog.info? 108=some i/\i.size=5/\i.zero=some z/\z.cells.size=5/\ ∀u∈z.cells,u.oneCell'=true:=by
 have h:(match Tryz.prog.info? 108 with|some i=>(match i.zero with|some z=>i.size==5&&z.cells.size==5&&z.cells.all (λu=>u.oneCell')|none=>false)|none=>false)=true:=by kernel_rfl
 split at h
 ·rename_i i hi;split at h
  ·rename_i z hz;simp only[Ab,AM,Array.all_eq_true_iff_forall_mem]at h;exact⟨i,z,hi,h.1.1,hz,h.1.2,h.2⟩
  ·cases h
 ·cases h
set_option maxHeartbeats 4000000 in
theorem zBK:fB Tryz.prog 281 108 5:=by
 intro w n i j g cap C cs AT Ei hjn h1;obtain⟨i0,z0,hi,hs,hz,CU,qP⟩:=zAP;have hv:∀w,(zeroValue 108).run Tryz.prog w= .ok z0 w:=λw=>by simp[zeroValue,typeInfo,hi,hz]
 obtain⟨d,rfl⟩:∃d,j=i+d:=⟨j-i,by omega⟩
 obtain⟨m,rfl⟩:∃m,n=i+d+m:=⟨n-(i+d),by omega⟩
 have Aw:=AT.len;have TE:=AT;obtain⟨LI,F6,hg,JA,BD⟩:=TE;have hcm':cap<=9223372036854775807:=F6;have hmul:=By 5 LI;obtain⟨news,Dh⟩:∃s,s=cs.drop ((i+d)*5):=⟨_,rfl⟩
 have JZ:news.length=m*5:=by rw[Dh,BC,Aw];omega
 have oV:∀u∈news,u.oneCell'=true:=λu hu=>by rw[Dh]at hu;exact h1 u (BH hu)
 obtain⟨C1,Ix⟩:∃R:Array Value,R=(C.toList.take (i*5)++news++C.toList.drop (i*5+news.length)).toArray:=⟨_,rfl⟩
 have Lp:C1.size=cap*5:=by rw[Ix];simp only[List.size_toArray,AH,Ar,BC,BG];omega
 obtain⟨A,hA,Dm⟩:∃A:Addr,(if cap=i+d then some (⟨g,0,none⟩:Addr)else some ⟨g,(i+d)*5,none⟩)=some A/\ ∀q u,news[q]?=some u->w.cell? (A.add q)=some u:=by
  by_cases h:cap=i+d
  ·refine⟨⟨g,0,none⟩,by simp[h],λq u hu=> ?_⟩;have Cr:m=0:=by omega
   have h0:news.length=0:=by rw[JZ,Cr,Nat.zero_mul]
   rw[List.length_eq_zero_iff.1 h0]at hu;simp at hu
  ·refine⟨⟨g,(i+d)*5,none⟩,by simp[h],λq u hu=> ?_⟩;exact AT.cell ((i+d)*5) q u (by rw[<-Dh];exact hu)
 have I7:∀(W:World),W.heap=w.heap-> ∀ty,(Builtin.append_ #[48,48] ty #[.slice (some ⟨g,0,none⟩) i cap, .slice (some A) m (cap-(i+d))]).run Tryz.prog W= .ok (.slice (some ⟨g,0,none⟩) (i+m) cap) (W.setRow g C1):=λW hW ty=>by rw[Ix];exact zpQ W 48 ty 108 i0 Tryz.underlying48 hi 5 hs g i cap A m (cap-(i+d)) C news (by rw[hW];exact hg) JZ (λq u hu=>by rw[World.cell?_of_block (w:=w) (by rw[hW])];exact Dm q u hu) oV (by omega) (by rw[JA,JZ];omega)
 obtain⟨W1,Tw⟩:∃W1,W1=w.drew.setRow g C1:=⟨_,rfl⟩
 have On:W1.heap[g]?=some (.cells C1 108 (0,0)):=by rw[Tw];exact setRow_heap _ _ _ _ _ _ hg
 obtain⟨C2,MF⟩:∃R:Array Value,R=(C1.toList.take ((i+m)*5)++(Builtin.zeroCells z0.cells d).toList++C1.toList.drop ((i+m)*5+(Builtin.zeroCells z0.cells d).toList.length)).toArray:=⟨_,rfl⟩
 have Lq:C2.size=cap*5:=by rw[MF];simp only[List.size_toArray,AH,Ar,BC,BG,size_zeroCells,CU];omega
 have pJ:∀ty N c,N=d->(Builtin.clear_ #[48] ty #[.slice (some ⟨g,(i+m)*5,none⟩) N c]).run Tryz.prog W1= .ok (.tuple #[]) (W1.setRow g C2):=λty N c hN=>by subst hN;rw[MF];exact zxW W1 48 108 ty z0 Tryz.underlying48 hv qP g ((i+m)*5) N c C1 (by omega) On (by rw[CU,Lp];omega)
 have fin:∀W:World,W.os=w.os->W.tape=w.tape->W.output=w.output->W.heap=(W1.setRow g C2).heap-> ∃C',Dg W 108 5 g cap C' (i+m) (cs.take (i*5)++cs.drop ((i+d)*5))/\Mod [g] w W:=λW w1 w2 w3 hW=>by
  refine⟨C2,⟨by omega,F6,by rw[hW];exact setRow_heap _ _ _ _ _ _ On,Lq,?_⟩,w1,w2,w3,by rw[hW,Tw];simp,λk hk hn=>by rw[hW,setRow_other _ _ _ _ (by simpa using hn),Tw,setRow_other _ _ _ _ (by simpa using hn)];rfl⟩;have l1:(C.toList.take (i*5)).length=i*5:=by rw[Ar,BG,JA];omega
  have e1:C1.toList.take ((i+m)*5)=C.toList.take (i*5)++news:=by
   rw[Ix];show(C.toList.take (i*5)++news++_).take _=_;have l2:(C.toList.take (i*5)++news).length=(i+m)*5:=by rw[AH,l1,JZ];omega
   rw[<-l2];exact List.take_left
  rw[MF];show _=(C1.toList.take ((i+m)*5)++_++_).take _;rw[e1,List.append_assoc,<-Dh,BD,List.take_take];have l2:(C.toList.take (i*5)++news).length=(i+m)*5:=by rw[AH,l1,JZ];omega
  rw[<-l2,List.take_left,Nat.min_eq_left (by omega)]
 have hlow: ¬cap=i+m:=by omega
 have HW:=Lib.hid Tw;have W0:0<d:=by omega
 have BB: ¬(i:Int)=(i:Int)+(d:Int):=by omega
 have h2:i<=cap:=by omega
 have h3:i+d<=cap:=by omega
 have mixed:Tryz.prog.follows Departure.mixedOrders=true:=by kernel_rfl
 have Gh:(0:Int)<=(i:Int)+(d:Int):=by omega
 have Gi:(i:Int)+(d:Int)<=(i:Int)+(d:Int)+(m:Int):=by omega
 have Qq:((i:Int)+(d:Int)).toNat=i+d:=by omega
 have hmn:i+d+m-(i+d)=m:=by omega
 have hcr2:=λty=>pJ ty (i+d+m-(i+m)) (cap-(i+m)) (by omega);clear pJ;clear AT BD JA hg Dm Dh JZ oV Ix Lp MF Lq On Tw CU qP hz hi hs hv hmul Aw h1
 go_enter Tryz.func281,Tryz.ntmps281
 go_wp2_with fail
 go_region_law_o (refine zpE rfl _ _ 48 rfl (.slice (some ⟨g,0,none⟩) i cap) (.slice (some A) m (cap-(i+d))) (by simp[Act.eval,Act.put]) (by simp[Act.eval,Act.put]) (I7 _ rfl) ?_;rw[<-HW.out])
 go_wp2
 go_ret
 obtain⟨C',f1,f2⟩:=fin _ (by rw[HW.out];rfl) (by rw[HW.out];rfl) (by rw[HW.out];rfl) rfl;exact⟨C',by simp;omega,by rw[show i+d+m-(i+d-i)=i+m by omega];exact f1,f2⟩
end Go.Proofs.YtalagilebkaegaaGreat
end
section
namespace Go.Proofs.YtalagilebkaegaaGreat
open Go.RowKit Go.Sort
set_option maxRecDepth 100000
def sQ(P:Program)(sg:BY)(f:Nat)(t el K:Nat):Bool:=
 match P.funcs[f]?,sg f with
 |some fn,some s=>(match s.b8,s.res,s.ft,s.lo with
  | [.va [true]],[true],[],[]=>true
  |_,_,_,_=>false)&&fn.body.isSome&& !(fn.name== "runtime.NumGoroutine")&&fn.params.toList==[t]&&(Du fn s)==[t]&&fn.nfree==0&& !Am P t&&Bf P t==[t]&&CX P t==some el&&Cc P el&&P.cellsOf el==K&&F0 P t [true]&&fn.params.size==1
 |_,_=>false
variable {α:Type} [Inhabited α] {enc:α->Value}
theorem vW{w:World}{b q:Nat}{d:Array α}{C:Array Value}{el:TypeId}(h:w.heap[b]?=some (.cells C el (0,0))):
  (putRow enc (Sort.ahead w q) b 0 d).heap[b]?=some (.cells (Go.Sort.putCells enc 0 d C) el (0,0)):=by
 show(w.heap.modify b (onCells (Go.Sort.putCells enc 0 d)))[b]?=_;rw[Array.getElem?_modify,if_pos rfl,h];rfl
theorem xI{w:World}{b q:Nat}{d:Array α}:Mod [b] w (putRow enc (Sort.ahead w q) b 0 d):=by
 refine⟨rfl,rfl,rfl,?_,λj hj hn=> ?_⟩
 ·show w.heap.size<=(w.heap.modify b (onCells (Go.Sort.putCells enc 0 d))).size;simp
 ·show(w.heap.modify b (onCells (Go.Sort.putCells enc 0 d)))[j]?=_;rw[Array.getElem?_modify,if_neg (by simpa[eq_comm]using hn)]
theorem wD(C:Array Value)(r z:List α)(h:r.length+z.length<=C.size):(Go.Sort.putCells enc 0 (r++z).toArray C).toList.take r.length=r.map enc:=by
 apply List.ext_getElem?;intro j;by_cases hj:j<r.length
 ·have hc:j<C.size:=by omega
  rw[List.getElem?_take,if_pos hj,List.getElem?_map,Br hj,Option.map_some,Array.getElem?_toList];have:j<(Go.Sort.putCells enc 0 (r++z).toArray C).size:=by simp[Go.Sort.putCells];exact hc
  rw[Array.getElem?_eq_getElem this];simp only[Go.Sort.putCells,Array.getElem_mapIdx,Nat.zero_le,true_and,Nat.zero_add,Nat.sub_zero];rw[if_pos (by simp;omega)];have h2:j<(r++z).toArray.size:=by simp;omega
  rw[getElem!_pos _ j h2];simp[hj]
 ·rw[List.getElem?_take,if_neg hj,List.getElem?_eq_none (by simpa using hj)]
theorem r7(b:ByteArray):encStr b.data.toList= .string b:=by show Value.string ⟨b.data.toList.toArray⟩= .string b;cases b;simp
theorem nR{w:World}:∀(r:List (List UInt8)),(∀s∈r,s.length<=9223372036854775807)->Rd w (r.map encStr) (Ao (r.map DP)) []
 | [],_=>by simpa[Ao]using Rd.nil
 |s::r,h=>by
  have e:Ao ((s::r).map DP)= .str s::Ao (r.map DP):=by simp[Ao,DP,AV.cells]
  rw[e,List.map_cons];have:=Rd.str (w:=w) (s:=⟨s.toArray⟩) (by show s.toArray.size<=_;simpa using h s (by simp)) (nR r λx hx=>h x (by simp[hx]));simpa using this
theorem lB{w:World}:∀{cs:List Value} {xs:List (List UInt8)} {f:List Nat},Rd w cs (Ao (xs.map DP)) f-> ∀s∈xs,s.length<=9223372036854775807
 |cs,[],f,_=>by simp
 |cs,x::xs,f,h=>by
  have e:Ao ((x::xs).map DP)= .str x::Ao (xs.map DP):=by simp[Ao,DP,AV.cells]
  rw[e]at h;cases h with
  |str a h=>
   intro s hs;rcases Ae.1 hs with rfl|hs
   ·simpa using a
   ·exact lB h s hs
theorem vV[DecidableEq α](zs:List α):∀s∈Lib.compact zs,s∈zs:=by
 intro s hs;unfold Lib.compact Lib.compactUpTo at hs;obtain⟨j,hj,rfl⟩:=List.mem_map.1 hs;have Ax:j<zs.length:=by simpa using(List.mem_filter.1 hj).1
 rw[getElem!_pos _ j (by simpa using Ax)];simp
theorem jU{w:World}:∀{cs:List Value} {xs:List (List UInt8)} {f:List Nat},Rd w cs (Ao (xs.map DP)) f-> ∃bs:List ByteArray,cs=bs.map Value.string/\bs.map (·.data.toList)=xs
 |cs,[],f,h=>by obtain⟨rfl,_⟩:=NK (by simpa[Ao]using h);exact⟨[],rfl,rfl⟩
 |cs,x::xs,f,h=>by
  have h':Rd w cs (.str x::Ao (xs.map DP)) f:=by simpa[Ao]using h
  obtain⟨b,us,rfl,rfl,_,h2⟩:=eY h';obtain⟨bs,rfl,rfl⟩:=jU h2;exact⟨b::bs,rfl,rfl⟩
theorem wK[DecidableEq α]{av:α->AV}{dz:α}{Q:α->Prop}(Dj:∀{w:World} {cs:List Value} {xs:List α} {f:List Nat},Rd w cs (Ao (xs.map av)) f->cs=xs.map enc/\ ∀s∈xs,Q s)
  (hwr:∀{w:World} (r:List α),(∀s∈r,Q s)->Rd w (r.map enc) (Ao (r.map av)) []) (ha:∀x,(av x).cells.length=1) (ho:∀x,(enc x).oneCell'=true) {f t el:Nat} (hk:sQ Tryz.prog B3 f t el 1=true) (B5:∀r,Hy Tryz.prog B3 f r=true)
  (hC:∀(blk cap:Nat) (zs:List α) (w:World),Holds enc w blk 0 zs.toArray->zs.length<=9223372036854775807->zs.length<=cap->
   Calls Tryz.prog f #[.slice (some ⟨blk,0,none⟩) zs.length cap] w λe w'=>e= .returned (.slice (some ⟨blk,0,none⟩) (Lib.compact zs).length cap)/\ ∃q,w'=putRow enc (Sort.ahead w q) blk 0 (Lib.compact zs++List.replicate (zs.length-(Lib.compact zs).length) dz).toArray)
  (h0:∀a cap w,Calls Tryz.prog f #[.slice a 0 cap] w λe w'=>e= .returned (.slice a 0 cap)/\w'=w)
  (xs:List α):Co Tryz.prog B3 f [.sl (xs.map av)] (.sl ((Lib.compact xs).map av)):=by
 unfold sQ at hk;split at hk
 ·rename_i fn s hf hs;simp only[Ab,Bc,AM]at hk;obtain⟨⟨⟨⟨⟨⟨⟨⟨⟨⟨⟨⟨g1,g2⟩,g3⟩,g4⟩,g5⟩,g6⟩,g7⟩,g8⟩,g9⟩,g10⟩,g11⟩,g12⟩,g13⟩:=hk;obtain⟨hm,hr,CA,BT⟩:s.b8=[.va [true]]/\s.res=[true]/\s.ft=[]/\s.lo=[]:=by
   split at g1
   ·rename_i a b c d;exact⟨a,b,c,d⟩
   ·cases g1
  have Aw:=Lib.compact_length_le xs;unfold Co;rw[if_pos (KC f s hs)];refine⟨s,hs,fn,hf,g2,g3,by have:=B5 ((Lib.compact xs).map av);unfold Hy at this;rw[hf,hs]at this;exact this,by simp[g6,g13],by simp[CA],λw vs rf lf A9 Ah hd _ B6 D1=> ?_⟩;rw[g4,CA,AB,hm,BT]at Ah;cases Ah with
  |lent h _ _ _=>cases h
  | @cons _ _ _ _ v1 vs1 _ _ f1 k1 rf1 lf1 BL a1 Ah=>
   cases Ah;obtain⟨rfl,r1⟩:=ZF g7 g8 g9 g10 a1;obtain⟨xs',cs,e1,p0,p1,p2,p3,p4,p5⟩:=r1.jy;cases e1;rw[g11]at p0 p1 p2 p5;have fin:∀{w':World} {v':Value} {top:List Nat},Mod k1 w w'->Db w' el 1 v' (.sl ((Lib.compact xs).map av)) top []->top.Nodup->(∀b∈top,b∈k1/\b<w'.heap.size)->fU Tryz.prog fn s w [v1] ([]++ []) (k1++ []) (.sl ((Lib.compact xs).map av)) v' w':=by
    intro w' v' top Bj Bk Eu Ck;refine⟨⟨_,[],[],top,[],[],rfl,?_,?_,by simpa using Eu,?_,by simp⟩,Bj.weaken λb hb=> .inl (by simp[hb])⟩
    ·rw[g5];show DY Tryz.prog w' t s.res _ _ [] top;unfold DY;rw[hr,if_pos g12];refine⟨[v'],[.sl ((Lib.compact xs).map av)],by rw[g7];simp,?_⟩;rw[g8];have:=Cz.own (P:=Tryz.prog) (t:=t) (ts:=[]) (fl:=[true]) (us:=[]) (ys:=[]) (rf:=[]) (hs:=[]) rfl g9 (.inl ⟨g10,rfl⟩) (by rw[g11];exact Bk) .nil;simpa using this
    ·rw[g4,CA,AB,hm];exact .va rfl .nil
    ·intro b hb;simp only[AB]at hb;exact⟨.inl (by simpa using(Ck b hb).1),(Ck b hb).2⟩
   rcases p5 with⟨Et,rfl,q,rfl⟩|⟨g,cap,C,rfl,⟨z1,z2,z3,z4,z5⟩,rfl⟩
   ·have Cs:xs=[]:=by simpa using Et
    subst Cs;refine(h0 q 0 w).mono ?_;rintro e w' ⟨rfl,rfl⟩;have:Lib.compact ([]:List α)=[]:=rfl;exact⟨_,rfl,fin (Mod.refl _ _) ⟨[],by rw[this];rfl,by simp,by omega, .inl ⟨rfl,⟨q,rfl⟩,rfl,rfl⟩⟩ (by simp) (by simp)⟩
   ·rw[List.length_map]at z1 z5;have Qi:=De z3;have B0:∀o,w.cell? ⟨g,o,none⟩=C[o]?:=Sx z3;have BD:cs=xs.map enc:=(Dj p3).1;have hH:Holds enc w g 0 xs.toArray:=by
     intro j hj;have OH:j<xs.length:=by simpa using hj
     refine⟨?_,Zb z3⟩;rw[B0,Nat.zero_add];have e1:C[j]?=cs[j]?:=by rw[z5,List.getElem?_take,if_pos (by omega)];simp
     rw[e1,BD,List.getElem?_map,Br OH,getElem!_pos _ j hj];simp
    have hc:=hC g cap xs w hH (by unfold maxLen at z2;omega) z1;rw[List.length_map]at fin ⊢;refine hc.mono ?_;rintro e w' ⟨rfl,q,rfl⟩;have ET:=vW (enc:=enc) (q:=q) (d:=(Lib.compact xs++List.replicate (xs.length-(Lib.compact xs).length) dz).toArray) z3;refine⟨_,rfl,fin (top:=[g]) xI ?_ (by simp) (λb hb=>by rw[List.mem_singleton]at hb;subst hb;exact⟨by simp,De ET⟩)⟩;have B2:=wD (enc:=enc) C (Lib.compact xs) (List.replicate (xs.length-(Lib.compact xs).length) dz) (by rw[List.length_replicate,z4];omega);refine⟨_,rfl,λy hy=> ?_,by omega, .inr ⟨g,cap,_,by simp,by rw[List.length_map];omega,z2,ET,by simp[Go.Sort.putCells,z4],rfl,?_,?_⟩⟩
    ·obtain⟨x,_,rfl⟩:=List.mem_map.1 hy;exact ha x
    ·rw[List.length_map,Nat.mul_one,B2];intro u hu;obtain⟨x,_,rfl⟩:=List.mem_map.1 hu;exact ho x
    ·rw[List.length_map,Nat.mul_one,B2];exact hwr _ λs hs=>(Dj p3).2 s (vV xs s hs)
 ·cases hk
noncomputable def QK(xs:List (List UInt8)):Option (List (List UInt8)):=some (Lib.compact xs)
theorem zhs(a0 r:List (List UInt8))(h:QK a0=some r):Co Tryz.prog B3 229 [.sl (a0.map DP)] (.sl (r.map DP)):=by cases h;exact wK (enc:=encStr) (av:=DP) (dz:=[]) (λh=>by obtain⟨bs,b1,b2⟩:=jU h;exact⟨by rw[b1,<-b2,List.map_map];exact List.map_congr_left λb _=>(r7 b).symm,lB h⟩) (λr h=>nR r h) (λ_=>rfl) (λ_=>rfl) (t:=24) (el:=9) (by kernel_rfl) (λ_=>by kernel_rfl) (λblk cap zs w hH h1 h2=>Tryz.slices_Compact_string blk 0 cap zs w hH h1 h2) (λa cap w=>Tryz.slices_Compact_string_empty a cap w) a0
end Go.Proofs.YtalagilebkaegaaGreat
end
section
namespace Go.Proofs.YtalagilebkaegaaGreat
open Go.RowKit Go.Sort
set_option maxRecDepth 100000
def sN(P:Program)(sg:BY)(f:Nat)(t el K:Nat):Bool:=
 match P.funcs[f]?,sg f with
 |some fn,some s=>(match s.b8,s.res,s.ft,s.lo with
  | [.mu [true]],[],[],[]=>true
  |_,_,_,_=>false)&&fn.body.isSome&& !(fn.name== "runtime.NumGoroutine")&&fn.params.toList==[t]&&(Du fn s)==[]&&fn.nfree==0&& !Am P t&&Bf P t==[t]&&CX P t==some el&&Cc P el&&P.cellsOf el==K&&fn.params.size==1
 |_,_=>false
theorem zy8{w:World}{b q:Nat}{d:Array (List UInt8)}{C:Array Value}{el:TypeId}{os:Array Obj}(h:w.heap[b]?=some (.cells C el (0,0))):
  (grow (putRow encStr (Sort.ahead w q) b 0 d) os).heap[b]?=some (.cells (Go.Sort.putCells encStr 0 d C) el (0,0)):=by
 have h1:=vW (enc:=encStr) (q:=q) (d:=d) h;show((putRow encStr (Sort.ahead w q) b 0 d).heap++os)[b]?=_;rw[Array.getElem?_append_left (De h1),h1]
theorem zB8{w:World}{b q:Nat}{d:Array (List UInt8)}{os:Array Obj}:Mod [b] w (grow (putRow encStr (Sort.ahead w q) b 0 d) os):=by
 have h:=xI (enc:=encStr) (w:=w) (b:=b) (q:=q) (d:=d);have hs:=h.size;refine⟨h.os,h.tape,h.output,?_,λj hj hn=> ?_⟩
 ·show w.heap.size<=((putRow encStr (Sort.ahead w q) b 0 d).heap++os).size;simp only[Array.size_append];omega
 ·show((putRow encStr (Sort.ahead w q) b 0 d).heap++os)[j]?=_;rw[Array.getElem?_append_left (by omega)];exact h.block j hj hn
def GA(xs:List (List UInt8)):List (List UInt8):=xs.mergeSort λx y=>decide (x<=y)
theorem xM(xs:List (List UInt8)):(GA xs).Perm xs:=List.mergeSort_perm _ _
theorem zyI{f t el:Nat}(hk:sN Tryz.prog B3 f t el 1=true)
  (hC:∀(blk cap:Nat) (zs:List (List UInt8)) (w:World),Holds encStr w blk 0 zs.toArray->blk<w.heap.size->zs.length<4611686018427387904->
   Calls Tryz.prog f #[.slice (some ⟨blk,0,none⟩) zs.length cap] w λe w'=>e= .returned (.tuple #[])/\ ∃n os,w'=grow (putRow encStr (Sort.ahead w n) blk 0 (zs.mergeSort λx y=>decide (x<=y)).toArray) os)
  (h0:∀a cap w,Calls Tryz.prog f #[.slice a 0 cap] w λe w'=>e= .returned (.tuple #[])/\w'=w)
  (xs:List (List UInt8)) (hb:xs.length<4611686018427387904):Co Tryz.prog B3 f [.sl (xs.map DP)] (.tup [.tup [], .sl ((GA xs).map DP)]):=by
 unfold sN at hk;split at hk
 ·rename_i fn s hf hs;simp only[Ab,Bc,AM]at hk;obtain⟨⟨⟨⟨⟨⟨⟨⟨⟨⟨⟨g1,g2⟩,g3⟩,g4⟩,g5⟩,g6⟩,g7⟩,g8⟩,g9⟩,g10⟩,g11⟩,g13⟩:=hk;obtain⟨hm,hr,CA,BT⟩:s.b8=[.mu [true]]/\s.res=[]/\s.ft=[]/\s.lo=[]:=by
   split at g1
   ·rename_i a b c d;exact⟨a,b,c,d⟩
   ·cases g1
  have hp:=xM xs;have Gw:=hp.length_eq;unfold Co;rw[if_pos (KC f s hs)];refine⟨s,hs,fn,hf,g2,g3,?_,by simp[g6,g13],by simp[CA],λw vs rf lf A9 Ah hd _ B6 D1=> ?_⟩
  ·unfold NN UE;rw[g4,g5,CA,AB,hm];simp[BK,Wu,Ij]
  rw[g4,CA,AB,hm,BT]at Ah;cases Ah with
  |lent h _ _ _=>cases h
  | @cons _ _ _ _ v1 vs1 _ _ f1 k1 rf1 lf1 BL a1 Ah=>
   cases Ah;obtain⟨rfl,r1⟩:=ZF g7 g8 g9 g10 a1;obtain⟨xs',cs,e1,p0,p1,p2,p3,p4,p5⟩:=r1.jy;cases e1;rw[g11]at p0 p1 p2 p5;have IN:(xs.map DP).length=xs.length:=by simp
   rcases p5 with⟨Et,rfl,q,rfl⟩|⟨g,cap,C,rfl,⟨z1,z2,z3,z4,z5⟩,rfl⟩
   ·have Cs:xs=[]:=by simpa using Et
    subst Cs;have hS0:GA []=[]:=by simpa using Gw
    refine(h0 q 0 w).mono ?_;rintro e w' ⟨rfl,rfl⟩;refine⟨_,rfl,⟨⟨.tup [],[.sl []],[],[],[],[],by simp[hS0],?_,?_,by simp,by simp,by simp⟩,Mod.refl _ _⟩⟩
    ·rw[g5];exact⟨[],[],rfl,rfl, .nil⟩
    ·rw[g4,CA,AB,hm];have Gn:Fq Tryz.prog w' (Bf Tryz.prog t) [true] [.slice q 0 0] [.sl []] [] []:=by
      rw[g8];have:=Fq.own (P:=Tryz.prog) (w:=w') (t:=t) (ts:=[]) (fl:=[true]) (us:=[]) (ys:=[]) rfl g9 (.inl ⟨g10,rfl⟩) (y:= .sl []) (u:= .slice q 0 0) (top:=[]) (by rw[g11];exact⟨[],rfl,by simp,p0, .inl ⟨rfl,⟨q,rfl⟩,rfl,rfl⟩⟩) .nil;simpa using this
     have:=DU.mu (P:=Tryz.prog) (w:=w') (t:=t) (ts:=[]) (ms:=[.mu [true]]) (own:=[true]) (v:= .slice q 0 0) (vs:=[]) (us:=[.slice q 0 0]) (ys:=[.sl []]) (y:= .sl []) (bs:=[]) (f:=[]) (o1:=[]) (o:=[]) rfl (by rw[g7];simp) Gn .nil;simpa using this
   ·rw[List.length_map]at z1 z5;obtain⟨bs,b1,b2⟩:=jU p3;have B0:∀o,w.cell? ⟨g,o,none⟩=C[o]?:=Sx z3;have BD:cs=xs.map encStr:=by
     rw[b1,<-b2,List.map_map];exact List.map_congr_left λb _=>(r7 b).symm
    have hH:Holds encStr w g 0 xs.toArray:=by
     intro j hj;have OH:j<xs.length:=by simpa using hj
     refine⟨?_,Zb z3⟩;rw[B0,Nat.zero_add];have e1:C[j]?=cs[j]?:=by rw[z5,List.getElem?_take,if_pos (by omega)];simp
     rw[e1,BD,List.getElem?_map,Br OH,getElem!_pos _ j hj];simp
    have hc:=hC g cap xs w hH (De z3) hb;rw[List.length_map];refine hc.mono ?_;rintro e w' ⟨rfl,n,os,rfl⟩;have ET:=zy8 (q:=n) (os:=os) (d:=(GA xs).toArray) z3;have Bj:=zB8 (w:=w) (b:=g) (q:=n) (os:=os) (d:=(GA xs).toArray);have B2:=wD (enc:=encStr) C (GA xs) [] (by rw[Gw,z4];simpa using z1);rw[AB,Gw]at B2;change Mod [g] w (grow (putRow encStr (Sort.ahead w n) g 0 (xs.mergeSort λx y=>decide (x<=y)).toArray) os)at Bj;change (grow (putRow encStr (Sort.ahead w n) g 0 (xs.mergeSort λx y=>decide (x<=y)).toArray) os).heap[g]?=_ at ET;generalize grow (putRow encStr (Sort.ahead w n) g 0 (xs.mergeSort λx y=>decide (x<=y)).toArray) os=w' at Bj ET;have Bk:Db w' el 1 (.slice (some ⟨g,0,none⟩) xs.length cap) (.sl ((GA xs).map DP)) [g] []:=by
     refine⟨_,rfl,λy hy=> ?_,by omega, .inr ⟨g,cap,_,by simp[Gw],by rw[List.length_map,Gw];omega,z2,ET,by simp[Go.Sort.putCells,z4],rfl,?_,?_⟩⟩
     ·obtain⟨x,_,rfl⟩:=List.mem_map.1 hy;rfl
     ·rw[List.length_map,Gw,Nat.mul_one,B2];intro u hu;obtain⟨x,_,rfl⟩:=List.mem_map.1 hu;rfl
     ·rw[List.length_map,Gw,Nat.mul_one,B2];exact nR _ λs hs=>lB p3 s (hp.mem_iff.1 hs)
    refine⟨_,rfl,⟨⟨.tup [],[.sl ((GA xs).map DP)],[],[],[],[g],by simp,?_,?_,by simp,?_,by simp⟩,Bj.weaken λb hb=> .inl (by simpa using hb)⟩⟩
    ·rw[g5];exact⟨[],[],rfl,rfl, .nil⟩
    ·rw[g4,CA,AB,hm];have Gn:Fq Tryz.prog w' (Bf Tryz.prog t) [true] [.slice (some ⟨g,0,none⟩) xs.length cap] [.sl ((GA xs).map DP)] [] [g]:=by
      rw[g8];have:=Fq.own (P:=Tryz.prog) (w:=w') (t:=t) (ts:=[]) (fl:=[true]) (us:=[]) (ys:=[]) rfl g9 (.inl ⟨g10,rfl⟩) (y:= .sl ((GA xs).map DP)) (u:= .slice (some ⟨g,0,none⟩) xs.length cap) (top:=[g]) (by rw[g11];exact Bk) .nil;simpa using this
     have:=DU.mu (P:=Tryz.prog) (w:=w') (t:=t) (ts:=[]) (ms:=[.mu [true]]) (own:=[true]) (v:= .slice (some ⟨g,0,none⟩) xs.length cap) (vs:=[]) (us:=[.slice (some ⟨g,0,none⟩) xs.length cap]) (ys:=[.sl ((GA xs).map DP)]) (y:= .sl ((GA xs).map DP)) (bs:=[]) (f:=[]) (o1:=[g]) (o:=[]) rfl (by rw[g7];simp) Gn .nil;simpa using this
    ·intro b hb;simp only[List.nil_append,List.mem_singleton]at hb;subst hb;exact⟨.inl (by simp),De ET⟩
 ·cases hk
noncomputable def QL(xs:List (List UInt8)):Option (Unit × List (List UInt8)):=req (xs.length<4611686018427387904) (some ((),GA xs))
theorem ziq(a0:List (List UInt8))(r:Unit × List (List UInt8))(h:QL a0=some r):Co Tryz.prog B3 228 [.sl (a0.map DP)] (.tup [.tup [], .sl (r.2.map DP)]):=by obtain⟨hb,h⟩:=F3 h;cases h;exact zyI (t:=24) (el:=9) (by kernel_rfl) (λblk cap zs w hH h1 h2=>Tryz.slices_Sort_string blk 0 cap zs w hH h1 h2) (λa cap w=>Tryz.slices_Sort_string_none a cap w) a0 hb
end Go.Proofs.YtalagilebkaegaaGreat
end
section
namespace Go.Proofs.YtalagilebkaegaaGreat
open Go.RowKit
set_option maxRecDepth 100000
theorem zAr:∃i z,Tryz.prog.info? 146=some i/\i.size=2/\i.zero=some z/\z.cells.size=2/\i.bytes<=1000:=by
 have h:(match Tryz.prog.info? 146 with|some i=>(match i.zero with|some z=>i.size==2&&z.cells.size==2&&decide (i.bytes<=1000)|none=>false)|none=>false)=true:=by kernel_rfl
 split at h
 ·rename_i i hi;split at h
  ·rename_i z hz;simp only[Ab,AM,AI]at h;exact⟨i,z,hi,h.1.1,hz,h.1.2,h.2⟩
  ·cases h
 ·cases h
set_option maxHeartbeats 4000000 in
theorem zyA(w:World)(a:Option Addr)(n c:Nat)(cs:List Value)(hs:Src w 2 a n cs)(hb:n*1000<=140737488355328):
  Calls Tryz.prog 215 #[.slice a n c] w λe w'=> ∃a' c',e= .returned (.slice a' n c')/\Mod [] w w'/\(n=0/\c'=0\/ ∃g C,a'=some ⟨g,0,none⟩/\w.heap.size<=g/\Dg w' 146 2 g c' C n cs):=by
 obtain⟨i0,z0,hi,Bo,hz,CU,EB⟩:=zAr;have q22:∀(w:World) (a:Option Addr) (n c n' c':Nat),(binOp .eql 47 (.slice a n c) (.slice none n' c')).run Tryz.prog w= .ok (.bool a.isNone) w:=λw a n c n' c'=>Lib.run_eql_slice_nil w _ _ a n c n' c' Tryz.underlying47;cases a with
 |none=>
  obtain⟨_,rfl,rfl⟩:(none:Option Addr)=none/\n=0/\cs=[]:=by
   rcases hs with h|⟨ad,h,_⟩
   ·exact h
   ·cases h
  clear hs hb
  go_enter Tryz.func215,Tryz.ntmps215
  go_wp2
  go_ret
  exact⟨none,0,rfl,Mod.refl _ _,by simp⟩
 |some ad=>
  have Cr:Mod [] w (w.alloc (.cells #[] 146)):=(Mod.refl [] w).alloc _;have A9:Src (w.alloc (.cells #[] 146)) i0.size (some ad) n cs:=by rw[Bo];exact hs.mod Cr
  obtain⟨v',w1,hr,AL⟩:=PN (P:=Tryz.prog) (w.alloc (.cells #[] 146)) 47 47 146 i0 z0 Tryz.underlying47 hi hz (by rw[CU,Bo]) (by omega) (λ_=>False) (.slice (some ⟨w.heap.size,0,none⟩) 0 0) 0 [] (by simp) (.inl ⟨rfl,_,rfl⟩) (some ad) n c cs A9 (by simp only[maxLen];omega) (by have:=Nat.mul_le_mul_left n EB;rw[Nat.zero_add];omega)
  have fin:∃a' c',v'= .slice a' n c'/\Mod [] w w1/\(n=0/\c'=0\/ ∃g C,a'=some ⟨g,0,none⟩/\w.heap.size<=g/\Dg w1 146 2 g c' C n cs):=by
   rcases AL with⟨rfl,rfl,rfl⟩|⟨g,cap,C,rfl,h1,h2,h3,h4,h5,h6,h7⟩
   ·exact⟨_,_,rfl,Cr, .inl ⟨rfl,rfl⟩⟩
   ·have cL:(w.alloc (.cells #[] 146)).heap.size<=g:=by
     rcases h7 with⟨h,_⟩|h
     ·omega
     ·exact h.elim
    have JO:w.heap.size<=g:=by simp at cL;omega
    refine⟨_,_,by rw[Nat.zero_add],⟨h6.os.trans Cr.os,h6.tape.trans Cr.tape,h6.output.trans Cr.output,Nat.le_trans Cr.size h6.size,λb hb hn=> ?_⟩, .inr ⟨g,C,rfl,JO,by omega,h2,h3,by rw[h4,Bo],?_⟩⟩
    ·rw[h6.block b (by simp;omega) (λe=>by cases e;omega)];exact Cr.block b hb hn
    ·rw[Nat.zero_add,List.nil_append,Bo]at h5;exact h5.symm
  clear AL hs A9 Cr
  go_enter Tryz.func215,Tryz.ntmps215
  go_wp2_with (at_builtin;refine Lib.wpList_append_run _ rfl _ _ _ _ rfl _ _ rfl rfl _ _ hr ?_)
  go_ret
  obtain⟨a',c',rfl,h1,h2⟩:=fin
  exact⟨a',c',rfl,h1,h2⟩
theorem zBV:∃i z,Tryz.prog.info? 198=some i/\i.size=3/\i.zero=some z/\z.cells.size=3/\i.bytes<=1000:=by
 have h:(match Tryz.prog.info? 198 with|some i=>(match i.zero with|some z=>i.size==3&&z.cells.size==3&&decide (i.bytes<=1000)|none=>false)|none=>false)=true:=by kernel_rfl
 split at h
 ·rename_i i hi;split at h
  ·rename_i z hz;simp only[Ab,AM,AI]at h;exact⟨i,z,hi,h.1.1,hz,h.1.2,h.2⟩
  ·cases h
 ·cases h
set_option maxHeartbeats 4000000 in
theorem zAE(w:World)(a:Option Addr)(n c:Nat)(cs:List Value)(hs:Src w 3 a n cs)(hb:n*1000<=140737488355328):
  Calls Tryz.prog 216 #[.slice a n c] w λe w'=> ∃a' c',e= .returned (.slice a' n c')/\Mod [] w w'/\(n=0/\c'=0\/ ∃g C,a'=some ⟨g,0,none⟩/\w.heap.size<=g/\Dg w' 198 3 g c' C n cs):=by
 obtain⟨i0,z0,hi,Bo,hz,CU,EB⟩:=zBV;have q22:∀(w:World) (a:Option Addr) (n c n' c':Nat),(binOp .eql 144 (.slice a n c) (.slice none n' c')).run Tryz.prog w= .ok (.bool a.isNone) w:=λw a n c n' c'=>Lib.run_eql_slice_nil w _ _ a n c n' c' Tryz.underlying144;cases a with
 |none=>
  obtain⟨_,rfl,rfl⟩:(none:Option Addr)=none/\n=0/\cs=[]:=by
   rcases hs with h|⟨ad,h,_⟩
   ·exact h
   ·cases h
  clear hs hb
  go_enter Tryz.func216,Tryz.ntmps216
  go_wp2
  go_ret
  exact⟨none,0,rfl,Mod.refl _ _,by simp⟩
 |some ad=>
  have Cr:Mod [] w (w.alloc (.cells #[] 198)):=(Mod.refl [] w).alloc _;have A9:Src (w.alloc (.cells #[] 198)) i0.size (some ad) n cs:=by rw[Bo];exact hs.mod Cr
  obtain⟨v',w1,hr,AL⟩:=PN (P:=Tryz.prog) (w.alloc (.cells #[] 198)) 144 144 198 i0 z0 Tryz.underlying144 hi hz (by rw[CU,Bo]) (by omega) (λ_=>False) (.slice (some ⟨w.heap.size,0,none⟩) 0 0) 0 [] (by simp) (.inl ⟨rfl,_,rfl⟩) (some ad) n c cs A9 (by simp only[maxLen];omega) (by have:=Nat.mul_le_mul_left n EB;rw[Nat.zero_add];omega)
  have fin:∃a' c',v'= .slice a' n c'/\Mod [] w w1/\(n=0/\c'=0\/ ∃g C,a'=some ⟨g,0,none⟩/\w.heap.size<=g/\Dg w1 198 3 g c' C n cs):=by
   rcases AL with⟨rfl,rfl,rfl⟩|⟨g,cap,C,rfl,h1,h2,h3,h4,h5,h6,h7⟩
   ·exact⟨_,_,rfl,Cr, .inl ⟨rfl,rfl⟩⟩
   ·have cL:(w.alloc (.cells #[] 198)).heap.size<=g:=by
     rcases h7 with⟨h,_⟩|h
     ·omega
     ·exact h.elim
    have JO:w.heap.size<=g:=by simp at cL;omega
    refine⟨_,_,by rw[Nat.zero_add],⟨h6.os.trans Cr.os,h6.tape.trans Cr.tape,h6.output.trans Cr.output,Nat.le_trans Cr.size h6.size,λb hb hn=> ?_⟩, .inr ⟨g,C,rfl,JO,by omega,h2,h3,by rw[h4,Bo],?_⟩⟩
    ·rw[h6.block b (by simp;omega) (λe=>by cases e;omega)];exact Cr.block b hb hn
    ·rw[Nat.zero_add,List.nil_append,Bo]at h5;exact h5.symm
  clear AL hs A9 Cr
  go_enter Tryz.func216,Tryz.ntmps216
  go_wp2_with (at_builtin;refine Lib.wpList_append_run _ rfl _ _ _ _ rfl _ _ rfl rfl _ _ hr ?_)
  go_ret
  obtain⟨a',c',rfl,h1,h2⟩:=fin
  exact⟨a',c',rfl,h1,h2⟩
abbrev Xw:List DT:=[.flat, .flat, .flat]
abbrev Xp:List DT:=[.flat, .row 198 3 (Av.of Xw)]
theorem zx3{l:List Ak}{k:Nat}(hk:k<l.length):(Ao (l.map Ee)).drop (k*2)= .str l[k].aj:: .sl (l[k].bb.map MB)::(Ao (l.map Ee)).drop ((k+1)*2):=by
 have hx:∀y∈l.map Ee,y.cells.length=2:=λy hy=>by obtain⟨c,_,rfl⟩:=List.mem_map.1 hy;rfl
 have e1:=(Sh hx (i:=k) (by simp;omega)).2;have e2:=(Sh hx (i:=k+1) (by simp;omega)).2;rw[<-e1,<-e2,Bl (show k<(l.map Ee).length by simpa using hk)];simp[Ao,Ee,AV.cells]
theorem zCo{w:World}{u:Value}{ys:List AV}{g:List Nat}(h:Rd w [u] [.sl ys] g):∃a c,u= .slice a ys.length c:=by
 cases h with
 |ed h=>exact⟨_,_,rfl⟩
 |scons q1 q2 q3 q4 q5 q6 q7 q8 q9 q10=>exact⟨_,_,by rw[q4]⟩
theorem zDT{w:World}{l:List Ak}{cs:List Value}{f:List Nat}(h:Rd w cs (Ao (l.map Ee)) f){k:Nat}(hk:k<l.length):
  ∃(s:ByteArray) (a:Option Addr) (c:Nat) (f1:List Nat),cs[k*2]?=some (.string s)/\s.data.toList=l[k].aj/\s.size<=9223372036854775807/\cs[k*2+1]?=some (.slice a l[k].bb.length c)/\Rd w [.slice a l[k].bb.length c] [.sl (l[k].bb.map MB)] f1/\(∀b∈f1,b∈f):=by
 obtain⟨g,hg,hp⟩:=h.piece (k*2) 2;rw[zx3 hk]at hp;simp only[List.take_succ_cons,List.take_zero]at hp;obtain⟨s,us,e1,e2,e3,hp⟩:=eY hp;have hl:=hp.len
 match us,hl with
 | [u],_=>
  have e4:cs[k*2]?=some (.string s):=by have:=congrArg (λL=>L[0]?) e1;simpa[List.getElem?_take,List.getElem?_drop]using this
  have e5:cs[k*2+1]?=some u:=by have:=congrArg (λL=>L[1]?) e1;simpa[List.getElem?_take,List.getElem?_drop]using this
  obtain⟨a,c,rfl⟩:=zCo hp;rw[List.length_map]at e5 hp;exact⟨s,a,c,g,e4,e2,e3,e5,hp,hg⟩
theorem rR{w:World}{v:Value}{ys:List AV}{f:List Nat}{K:Nat}(h:Rd w [v] [.sl ys] f)(hK:∀y∈ys,y.cells.length=K)(hb:ys.length<=9223372036854775807):
  ∃a c cs f1,v= .slice a ys.length c/\Src w K a ys.length cs/\Rd w cs (Ao ys) f1/\ ∀b∈f1,b∈f:=by
 cases h with
 |ed h=>
  rename_i a c;refine⟨a,c,[],[],rfl,?_,by simpa[Ao]using Rd.nil,by simp⟩;cases a with
  |none=>exact .inl ⟨rfl,rfl,rfl⟩
  |some ad=>exact .inr ⟨ad,rfl,by simp,by simp,by simp⟩
 | @scons b o n c ys cs C ty fz sz f1 vs xs f2 q1 q2 q3 q4 q5 q6 q7 q8 q9 q10=>
  subst q4;have Bo:sz=K:=by
   cases ys with
   |nil=>simp at q2
   |cons y ys=>rw[<-q5 y (by simp),hK y (by simp)]
  subst Bo;refine⟨some ⟨b,o,none⟩,c,cs,f1,rfl, .inr ⟨⟨b,o,none⟩,rfl,?_,λj u hj=> ?_,q8⟩,q9,λx hx=>by simp[hx]⟩
  ·rw[q9.len,K4 _ hK]
  ·rw[Addr.add_lit,ED q1];exact q7 j u hj
theorem yW{L:List Value}{k:Nat}{s v:Value}(hs:L[k*2]?=some s)(hl:k*2+1<L.length):(L.set (k*2+1) v).take ((k+1)*2)=L.take (k*2)++ [s,v]:=by rw[show(k+1)*2=k*2+1+1 by omega,List.take_add_one,List.take_add_one,List.take_set_of_le (by omega)];rw[List.getElem?_set_ne (by omega),hs,List.getElem?_set_self hl];simp
theorem zzy{L M:List Value}{k n:Nat}{v:Value}(h:(L.take (n*2)).drop (k*2)=M.drop (k*2)):((L.set (k*2+1) v).take (n*2)).drop ((k+1)*2)=M.drop ((k+1)*2):=by
 have e:((L.set (k*2+1) v).take (n*2)).drop ((k+1)*2)=(L.take (n*2)).drop ((k+1)*2):=by rw[List.take_set,List.drop_set_of_lt (by omega)]
 rw[e,show(k+1)*2=k*2+2 by omega,<-List.drop_drop,h,List.drop_drop]
def SW(w1:World)(g cap n:Nat)(cs:List Value)(ys:List AV)(k:Nat)(wr:World):Prop:=
 ∃C N,wr.heap[g]?=some (.cells C 146 (0,0))/\C.size=cap*2/\(C.toList.take (n*2)).drop (k*2)=cs.drop (k*2)/\DC wr (Bq k Xp) (C.toList.take (k*2)) (Ao (ys.take k)) N/\(∀u∈C.toList.take (k*2),u.oneCell'=true)/\
  N.Nodup/\(∀b∈N,w1.heap.size<=b/\b<wr.heap.size)/\Mod [g] w1 wr
theorem SW.next{w w1 wr w2:World}{g cap k:Nat}{cs cs':List Value}{l:List Ak}(hn:l.length<=cap)(DH:Mod [] w w1)(JO:w.heap.size<=g)(pM:g<w1.heap.size)(hI:SW w1 g cap l.length cs (l.map Ee) k wr)(hk:k<l.length)
  {s:ByteArray} {a':Option Addr} {c':Nat} (e1:cs[k*2]?=some (.string s)) (e2:s.data.toList=l[k].aj) (e3:s.size<=9223372036854775807) (Je:Rd w cs' (Ao (l[k].bb.map MB)) []) (KM:∀u∈cs',u.oneCell'=true)
  (CT:Mod [] wr w2) (AL:l[k].bb.length=0/\c'=0\/ ∃g2 C2,a'=some ⟨g2,0,none⟩/\wr.heap.size<=g2/\Dg w2 198 3 g2 c' C2 l[k].bb.length cs'):
  SW w1 g cap l.length cs (l.map Ee) (k+1) (w2.setCell ⟨g,k*2+1,none⟩ (.slice a' l[k].bb.length c')):=by
 obtain⟨C,N,i1,i2,i3,i4,i5,i6,i7,i8⟩:=hI;have OC:g<wr.heap.size:=De i1;have j1:w2.heap[g]?=some (.cells C 146 (0,0)):=by rw[CT.block g OC (by simp)];exact i1
 have j2:=heap_setCell_same w2 g (k*2+1) C 146 (.slice a' l[k].bb.length c') j1;have DL:C.toList.length=cap*2:=by simpa using i2
 have Ug:C.toList[k*2]?=some (.string s):=by have:=congrArg (λL=>L[0]?) i3;simp only[List.getElem?_drop,List.getElem?_take,Nat.add_zero]at this;rw[if_pos (by omega)]at this;rw[this];exact e1
 have hT:∃T,DC w2 [.row 198 3 (Av.of Xw)] [.slice a' l[k].bb.length c'] [.sl (l[k].bb.map MB)] T/\T.Nodup/\ ∀b∈T,wr.heap.size<=b/\b<w2.heap.size:=by
  rcases AL with⟨h0,rfl⟩|⟨g2,C2,rfl,hg2,r1,r2,r3,r4,r5⟩
  ·have:l[k].bb=[]:=List.eq_nil_of_length_eq_zero h0;rw[this];exact⟨[], .void (by omega) (by rw[Av.ax];rfl) .nil,by simp,by simp⟩
  ·have Aw:(C2.toList.take (l[k].bb.length*3)).length=l[k].bb.length*3:=by
    have:C2.toList.length=c'*3:=by simpa using r4
    rw[Ar,this];omega
   have hd:=DC.kj (w:=w2) (Je.frame (by simp)) (ts:=Bq l[k].bb.length Xw) (ZI _ rfl) (by rw[K6,r5,Aw];rfl);rw[r5]at hd;have:=DC.row (w:=w2) (e:=198) (z:=3) (l:=Av.of Xw) (g:=g2) (cap:=c') (C:=C2) (ys:=l[k].bb.map MB) (N1:=[]) (ts:=[]) (vs:=[]) (xs:=[]) (N:=[]) (by omega) (by rw[Av.ax];rfl) r3 (by simpa using r1) r2 r4 (λy hy=>by obtain⟨x,_,rfl⟩:=List.mem_map.1 hy;rfl) (by rw[List.length_map,<-r5];exact KM) (by rw[List.length_map,Av.ax];exact hd) .nil
   refine⟨[g2],by simpa using this,by simp,λb hb=> ?_⟩;simp only[List.mem_singleton]at hb;subst hb;exact⟨hg2,De r3⟩
 obtain⟨T,t1,t2,t3⟩:=hT;have hgT:g∉T:=λh=>by have:=(t3 g h).1;omega
 have cH:g∉N:=λh=>by have:=(i7 g h).1;omega
 have LA:∀b,b≠g->(w2.setCell ⟨g,k*2+1,none⟩ (.slice a' l[k].bb.length c')).heap[b]?=w2.heap[b]?:=λb hb=>Below.heap_setCell _ _ _ _ (by simpa using hb);have Bo:(w2.setCell ⟨g,k*2+1,none⟩ (.slice a' l[k].bb.length c')).heap.size=w2.heap.size:=by simp[World.setCell]
 refine⟨_,N++T,j2,by simpa using i2,?_,?_,?_,?_,?_,?_⟩
 ·rw[Array.toList_setIfInBounds];exact zzy i3
 ·rw[Array.toList_setIfInBounds,yW Ug (by rw[DL];omega),K7,zX,List.take_add_one,show(l.map Ee)[k]?=some (Ee l[k]) by simp[hk]];have e5:Ao ((l.map Ee).take k++(some (Ee l[k])).toList)=Ao ((l.map Ee).take k)++ [.str l[k].aj, .sl (l[k].bb.map MB)]:=by simp[Ao,Ee,AV.cells]
  rw[e5];refine DC.app ((i4.frame (w':=w2) λb hb=>CT.block b (i7 b hb).2 (by simp)).frame λb hb=>LA b λe=>cH (e▸hb)) ?_;have GN:Rd (w2.setCell ⟨g,k*2+1,none⟩ (.slice a' l[k].bb.length c')) [.string s] [.str l[k].aj] []:=by rw[<-e2];exact .str e3 .nil
  exact .flat GN (t1.frame λb hb=>LA b λe=>hgT (e▸hb))
 ·rw[Array.toList_setIfInBounds,yW Ug (by rw[DL];omega)];intro u hu;rcases Ac.1 hu with hu|hu
  ·exact i5 u hu
  ·simp only[Ae,List.not_mem_nil,or_false]at hu;rcases hu with rfl|rfl<;>rfl
 ·exact List.nodup_append.2 ⟨i6,t2,λx hx y hy e=>by have:=(i7 x hx).2;have:=(t3 y hy).1;omega⟩
 ·intro b hb;rw[Bo];have:=CT.size;have:=i8.size;rcases Ac.1 hb with hb|hb
  ·have:=i7 b hb;omega
  ·have:=t3 b hb;omega
 ·exact(i8.trans CT (by simp)).setCell (by simp) _
set_option maxHeartbeats 4000000 in
theorem zxM(l:List Ak)(w:World)(v:Value)(f:List Nat)(hr:Rd w [v] [.sl (l.map Ee)] f)(hl:l.length*1000<=140737488355328)(hv:∀c∈l,c.bb.length*1000<=140737488355328):
  Calls Tryz.prog 154 #[v] w λe w'=> ∃v' N,e= .returned v'/\DC w' [.row 146 2 (Av.of Xp)] [v'] [.sl (l.map Ee)] N/\N.Nodup/\(∀b∈N,w.heap.size<=b/\b<w'.heap.size)/\Mod [] w w':=by
 obtain⟨a,c,cs,f1,rfl,hs,qD,_⟩:=rR (K:=2) hr (λy hy=>by obtain⟨x,_,rfl⟩:=List.mem_map.1 hy;rfl) (by simp;omega);rw[List.length_map]at hs ⊢;have Aw:=zyA w a l.length c cs hs hl;have H1:=Lib.hid qD;have H2:=Lib.hid hv;have H3:=Lib.hid hs;clear qD hv hs hr
 go_enter Tryz.func154,Tryz.ntmps154
 go_wp2_with (go_at_call 215;refine Aw.mono ?_;rintro e w1 ⟨a1,cap,rfl,DH,h1⟩)
 have HM:=Lib.hid DH;rcases h1 with⟨hz,rfl⟩|⟨g,C0,rfl,JO,AT⟩
 ·have II:l=[]:=List.eq_nil_of_length_eq_zero hz;subst II;clear DH Aw
  go_loopw [9] (λs9 wr=>s9= .int .i64 0/\wr=w1) (λ_ _=>0)
  case atStart=>exact⟨rfl,rfl⟩
  case round=>
   obtain⟨rfl,rfl⟩:=hrel
   go_wp2
   go_ret
   exact⟨_,[],rfl, .void (by omega) (by rw[Av.ax];rfl) .nil,by simp,by simp,HM.out⟩
 ·have HI:Hid (SW w1 g cap l.length cs (l.map Ee) 0 w1):=by
   obtain⟨r1,r2,r3,r4,r5⟩:=AT;exact⟨C0,[],r3,r4,by rw[Nat.zero_mul,List.drop_zero,List.drop_zero];exact r5.symm,by simpa[Bq,Ao]using DC.nil,by simp,by simp,by simp,Mod.refl _ _⟩
  have Fl:l.length<=cap:=AT.1;have F6:cap<=9223372036854775807:=AT.2.1;have pM:g<w1.heap.size:=De AT.2.2.1;clear AT DH Aw
  go_loopw [9] (λs9 wr=> ∃k:Nat,k<=l.length/\s9= .int .i64 k/\Hid (SW w1 g cap l.length cs (l.map Ee) k wr)) (λs9 _=>l.length-(intOf s9).toNat)
  case atStart=>exact⟨0,by omega,rfl,HI⟩
  case round=>
   obtain⟨k,hk,rfl,HK⟩:=hrel;by_cases Ax:k<l.length
   ·obtain⟨s,av,cv,fv,e1,e2,e3,e4,e5,_⟩:=zDT H1.out Ax;obtain⟨b1,b2,cs',fv',b3,A9,Je,_⟩:=rR (K:=3) e5 (λy hy=>by obtain⟨x,_,rfl⟩:=List.mem_map.1 hy;rfl) (by have:=H2.out _ (Ay Ax);simp;omega);rw[List.length_map]at b3;cases b3;have B5:fv'=[]:=Hs Je λy hy=>by
     unfold Ao at hy;obtain⟨x,hx,hy⟩:=List.mem_flatMap.1 hy;obtain⟨q,_,rfl⟩:=List.mem_map.1 hx;simp[MB,AV.cells]at hy;rcases hy with rfl|rfl|rfl<;>rfl
    subst B5;rw[List.length_map]at A9;obtain⟨C,N,i1,i2,i3,i4,i5,i6,i7,i8⟩:=HK.out;have pW:Mod [] w wr:=HM.out.trans i8 (by simp;omega);have Qj:=zAE wr av l[k].bb.length cv cs' (A9.mod pW) (H2.out _ (Ay Ax));have IB:C[k*2+1]?=some (.slice av l[k].bb.length cv):=by have:=congrArg (λL=>L[1]?) i3;simp only[List.getElem?_drop,List.getElem?_take]at this;rw[if_pos (by omega)]at this;rw[<-Array.getElem?_toList,this];exact e4
    have B0:wr.cell? ⟨g,k*2+1,none⟩=some (.slice av l[k].bb.length cv):=by rw[Sx i1];exact IB
    have OC:g<wr.heap.size:=De i1;have BZ:∀w2,Mod [] wr w2->w2.cell? ⟨g,k*2+1,none⟩=some (.slice av l[k].bb.length cv)/\w2.frozen? ⟨g,k*2+1,none⟩=false:=λw2 CT=>by
     have j1:w2.heap[g]?=some (.cells C 146 (0,0)):=by rw[CT.block g OC (by simp)];exact i1
     exact⟨by rw[Sx j1];exact IB,Zb j1⟩
    have KM:∀u∈cs',u.oneCell'=true:=by
     rcases A9 with⟨_,_,rfl⟩|⟨_,_,_,_,h⟩
     ·simp
     ·exact h
    obtain⟨m,hm⟩:∃m,m=l[k].bb.length:=⟨_,rfl⟩
    rw[<-hm]at B0 BZ Qj;have HE:=Lib.hid (And.intro hm (And.intro e1 (And.intro e2 (And.intro e3 (And.intro Je KM)))));have HA:=Lib.hid BZ;clear BZ hm e1 e2 e3 e4 e5 Je KM i1 i2 i3 i4 i5 i6 i7 i8 pW A9 IB
    go_wp2_with (go_at_call 216;refine Qj.mono ?_;rintro e w2 ⟨a',c',rfl,CT,AL⟩;obtain⟨hc2,hf2⟩:=HA.out w2 CT)
    go_roundw
    case rel=>
     obtain⟨hm,e1,e2,e3,Je,KM⟩:=HE.out;subst hm;exact⟨k+1,by omega,by go_num,SW.next Fl HM.out JO pM HK.out Ax e1 e2 e3 Je KM CT AL⟩
    case measure=>simp[intOf];omega
   ·obtain rfl:k=l.length:=by omega
    go_wp2
    go_ret
    obtain⟨C,N,i1,i2,i3,i4,i5,i6,i7,i8⟩:=HK.out;have hd:=DC.row (w:=wr) (e:=146) (z:=2) (l:=Av.of Xp) (g:=g) (cap:=cap) (C:=C) (ys:=l.map Ee) (N1:=N) (ts:=[]) (vs:=[]) (xs:=[]) (N:=[]) (by omega) (by rw[Av.ax];rfl) i1 (by simpa using Fl) F6 i2 (λy hy=>by obtain⟨x,_,rfl⟩:=List.mem_map.1 hy;rfl) (by rw[List.length_map];exact i5) (by rw[List.length_map,Av.ax];have h4:=i4;rw[show List.take l.length (l.map Ee)=l.map Ee from List.take_of_length_le (by simp)]at h4;exact h4) .nil
    refine⟨_,g::N,rfl,by simpa using hd,List.nodup_cons.2 ⟨λh=>by have:=(i7 g h).1;omega,i6⟩,λb hb=> ?_,HM.out.trans i8 (by simp;omega)⟩;have:=HM.out.size;rcases Ae.1 hb with rfl|hb
    ·exact⟨JO,De i1⟩
    ·have:=i7 b hb;omega
def sK(P:Program)(sg:BY)(f t el K:Nat)(l:List DT):Bool:=
 match P.funcs[f]?,sg f with
 |some fn,some s=>(match s.b8,s.res,s.ft,s.lo with
  | [],[true],[],[]=>true
  | [.ro],[true],[],[]=>true
  |_,_,_,_=>false)&&fn.body.isSome&& !(fn.name== "runtime.NumGoroutine")&&fn.params.toList==[t]&&(Du fn s)==[t]&&fn.nfree==0&& !Am P t&&Bf P t==[t]&&CX P t==some el&& !Cc P el&&KA (DF P t) el K l&&F0 P t [true]&&fn.params.size==1
 |_,_=>false
noncomputable def Rm(l:List Ak):Option (List Ak):=req (l.length*1000<=140737488355328/\ ∀c∈l,c.bb.length*1000<=140737488355328) (some l)
theorem zpF(a0 r:List Ak)(h:Rm a0=some r):Co Tryz.prog B3 154 [.sl (a0.map Ee)] (.sl (r.map Ee)):=by
 obtain⟨⟨hb,hv⟩,h⟩:=F3 h;cases h;have hk:sK Tryz.prog B3 154 47 146 2 Xp=true:=by kernel_rfl
 have B5:∀r,Hy Tryz.prog B3 154 r=true:=λ_=>by kernel_rfl
 unfold sK at hk;split at hk
 ·rename_i fn s hf hs;simp only[Ab,Bc,AM]at hk;obtain⟨⟨⟨⟨⟨⟨⟨⟨⟨⟨⟨⟨g1,g2⟩,g3⟩,g4⟩,g5⟩,g6⟩,g7⟩,g8⟩,g9⟩,g10⟩,g11⟩,g12⟩,g13⟩:=hk;have g11:=Nz g11;obtain⟨hm,hr,CA,BT⟩:(∀m∈s.b8,m= .ro)/\s.res=[true]/\s.ft=[]/\s.lo=[]:=by
   split at g1
   ·rename_i a b c d;exact⟨by rw[a];simp,b,c,d⟩
   ·rename_i a b c d;exact⟨by rw[a];simp,b,c,d⟩
   ·cases g1
  unfold Co;rw[if_pos (KC _ s hs)];refine⟨s,hs,fn,hf,g2,g3,by have:=B5 (a0.map Ee);unfold Hy at this;rw[hf,hs]at this;exact this,by simp[g6,g13],by simp[CA],λw vs rf lf A9 Ah hd _ B6 D1=> ?_⟩;obtain⟨Dj,rfl⟩:=Ah.rd BT hm;have LF:=Dj.len
  match vs,LF with
  | [v],_=>
   refine(zxM a0 w v rf Dj hb hv).mono ?_;rintro e w' ⟨v',N,rfl,Bk,hN,Ch,Bj⟩;refine⟨_,rfl,⟨⟨_,[],[],N,[],[],rfl,?_,DU.iz (by rw[g4,CA];rfl) hm,by simpa using hN,?_,by simp⟩,Bj⟩⟩
   ·rw[g5];show DY Tryz.prog w' _ s.res _ _ [] _;unfold DY;rw[hr,if_pos g12];refine⟨[v'],[.sl (a0.map Ee)],by rw[g7];simp,?_⟩;rw[g8];have:=Cz.deep (P:=Tryz.prog) (t:=47) (ts:=[]) (fl:=[true]) (us:=[]) (ys:=[]) (rf:=[]) (hs:=[]) rfl g9 g10 g11 Bk .nil;simpa using this
   ·intro b hb;rw[AB]at hb;exact⟨.inr (Ch b hb).1,(Ch b hb).2⟩
 ·cases hk
end Go.Proofs.YtalagilebkaegaaGreat
end

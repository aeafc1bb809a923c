/- Parts of a proof, joined: DA, DB, MA, MB, OB, OG, QA, QO, MC, MD, QT, TF, QL, HB, SP, HL, IA, IC, ID, IE, IF, IG, IB, CM, SS. -/
import Derived.Test.YtalagilebkaegaaGreatK6
import Derived.Test.YtalagilebkaegaaGreatProg
import Derived.Test.YtalagilebkaegaaGreatChecked
import Derived.Shelf.Small.Bits
import Derived.Shelf.Small.Strs
import Derived.Shelf.Small.Wraps
import Derived.Shelf.Strconv.Itoa0
import Derived.Shelf.Strings.Search1
import Derived.Shelf.Sort.Plain
import Derived.Ground.Names2Prog
import Derived.Shelf.Slices.CompactI
import Derived.Shelf.Slices.CompactS
import Derived.Shelf.Slices.Cells
import Derived.Shelf.Slices.In.SortNone
import Derived.Laws.CopyRow
import Derived.Lib.AppendZerosOnto
import Derived.Lib.Overlaps
import Derived.Lib.SliceRun
import Derived.Lib.SlicesDelete
import Derived.Shelf.RegionOpenPlain
import Derived.Deep.RegionLaw
import Derived.Lib.RowBridge
set_option linter.unusedVariables false
set_option linter.unusedSimpArgs false
section
namespace Go.Proofs.YtalagilebkaegaaGreat
open Go.RowKit
noncomputable def pG(t:TypeId):List Bool:=(A8 Tryz.prog t).map λu=>match CR Tryz.prog u with|some e=>Ca Tryz.prog e|none=>false
noncomputable def sZ(u:TypeId):List Bool:=if u=77 then []else pG u
noncomputable def zGk(fn:Func):G6:={bz:=fn.params.toList.map λt=>match KA Tryz.prog t with|some u=> .bx (sZ u) (sZ u)|none=> .ro,res:=fn.resultTypes.toList.flatMap pG}
noncomputable def zFr(f:Nat):Option G6:=
 match f with
 |5=>some {bz:=[],res:=[false],dp:=true}
 |6=>some {bz:=[],res:=[false],dp:=true}
 |8=>some {bz:=[],res:=[]}
 |9=>some {bz:=[.ro, .ro],res:=[true,true,true,true,false],dp:=true}
 |10=>some {bz:=[.ro, .ro],res:=[]}
 |15=>some {bz:=[],res:=[]}
 |16=>some {bz:=[.ro, .ro],res:=[true,true,true,false],dp:=true}
 |19=>some {bz:=[.ro],res:=[true,true,true,false],dp:=true}
 |21=>some {bz:=[],res:=[]}
 |22=>some {bz:=[.ro],res:=[]}
 |23=>some {bz:=[],res:=[]}
 |26=>some {bz:=[],res:=[true,true,true],dp:=true}
 |29=>some {bz:=[.mu [true,true,true], .ro],res:=[],dp:=true}
 |35=>some {bz:=[.mu [true], .ro],res:=[]}
 |36=>some {bz:=[.mu [true], .ro],res:=[]}
 |38=>some {bz:=[.bx [] []],res:=[]}
 |39=>some {bz:=[.ro],res:=[true,true,true],dp:=true}
 |40=>some {bz:=[.ro, .ro],res:=[true,true,true,false],dp:=true}
 |42=>some {bz:=[.ro, .ro],res:=[]}
 |57=>some {bz:=[.ro, .ro],res:=[true,true,false,false],sh:=true}
 |63=>some {bz:=[.ro, .ro],res:=[true,true,true,false],dp:=true}
 |64=>some {bz:=[.ro, .ro, .ro],res:=[true,true,true,false],dp:=true}
 |65=>some {bz:=[],res:=[]}
 |66=>some {bz:=[.ro],res:=[true,true,false],sh:=true}
 |67=>some {bz:=[.ro, .ro],res:=[]}
 |68=>some {bz:=[.ro, .ro],res:=[]}
 |75=>some {bz:=[],res:=[true],dp:=true}
 |76=>some {bz:=[],res:=[true],dp:=true}
 |80=>some {bz:=[.mu [true], .ro],res:=[]}
 |81=>some {bz:=[.mu [true], .ro],res:=[],dp:=true}
 |82=>some {bz:=[.mu [true], .ro],res:=[],dp:=true}
 |88=>some {bz:=[.bx [] []],res:=[]}
 |92=>some {bz:=[.ro],res:=[false,true,true,true],dp:=true}
 |96=>some {bz:=[.ro, .ro, .ro],res:=[true,true,true,false],dp:=true}
 |97=>some {bz:=[.ro, .ro, .ro],res:=[true,true,true,false],dp:=true}
 |103=>some {bz:=[.ro],res:=[]}
 |120=>some {bz:=[.ro, .ro],res:=[]}
 |127=>some {bz:=[.ro, .ro, .ro],res:=[true,true,true,false],dp:=true}
 |132=>some {bz:=[.ro, .ro],res:=[]}
 |133=>some {bz:=[.ro, .ro],res:=[]}
 |136=>some {bz:=[],res:=[false,true,true,true],dp:=true}
 |141=>some {bz:=[.mu [true], .ro],res:=[],dp:=true}
 |142=>some {bz:=[.mu [true], .ro],res:=[],dp:=true}
 |143=>some {bz:=[.mu [true], .ro],res:=[]}
 |144=>some {bz:=[.mu [true], .ro],res:=[]}
 |151=>some {bz:=[.ro, .ro],res:=[]}
 |154=>some {bz:=[.ro],res:=[true],dp:=true}
 |172=>some {bz:=[.va [true]],res:=[true]}
 |177=>some {bz:=[.ro],res:=[]}
 |185=>some {bz:=[.bx [] []],res:=[]}
 |191=>some {bz:=[.ro, .ro],res:=[]}
 |193=>some {bz:=[.ro, .ro],res:=[false,true,true,true,false],dp:=true}
 |195=>some {bz:=[.ro],res:=[true],dp:=true}
 |197=>some {bz:=[.ro, .ro],res:=[]}
 |203=>some {bz:=[],res:=[true],dp:=true}
 |204=>some {bz:=[],res:=[true],dp:=true}
 |211=>some {bz:=[.mu [true], .ro],res:=[]}
 |218=>some {bz:=[.va [true], .ro],res:=[true],wn:=true}
 |220=>some {bz:=[.va [true], .ro],res:=[true],wn:=true}
 |228=>some {bz:=[.mu [true]],res:=[]}
 |229=>some {bz:=[.va [true]],res:=[true]}
 |240=>some {bz:=[.ro],res:=[]}
 |247=>some {bz:=[.ro, .ro, .ro],res:=[true,false],dp:=true,wn:=true}
 |250=>some {bz:=[.ro, .ro],res:=[false,true,true,true,false],dp:=true}
 |252=>some {bz:=[.va [true], .ro, .va [true]],res:=[true]}
 |269=>some {bz:=[.mu [true], .ro, .ro, .ro],res:=[]}
 |279=>some {bz:=[.bx [] []],res:=[]}
 |280=>some {bz:=[.ro, .ro, .ro],res:=[true,false],dp:=true}
 |281=>some {bz:=[.va [true], .ro, .ro],res:=[true]}
 |282=>some {bz:=[.va [true], .ro, .va [true]],res:=[true]}
 |284=>some {bz:=[.ro],res:=[true],sh:=true}
 |291=>some {bz:=[.mu [true], .ro, .ro],res:=[]}
 |292=>some {bz:=[.mu [true], .ro, .ro],res:=[]}
 |293=>some {bz:=[.mu [true], .ro, .ro],res:=[]}
 |294=>some {bz:=[.mu [true], .ro, .ro],res:=[]}
 |295=>some {bz:=[.mu [true], .ro, .ro],res:=[]}
 |296=>some {bz:=[.mu [true], .ro, .ro],res:=[]}
 |298=>some {bz:=[.mu [true], .ro, .ro, .ro],res:=[]}
 |299=>some {bz:=[.mu [true], .ro, .ro, .ro],res:=[]}
 |306=>some {bz:=[.va [true], .ro, .va [true]],res:=[true]}
 |313=>some {bz:=[.mu [true], .ro, .ro, .ro],res:=[]}
 |316=>some {bz:=[.mu [true], .ro, .bx [false] [false]],res:=[]}
 |317=>some {bz:=[.mu [true], .ro, .ro, .ro, .bx [false] [false]],res:=[]}
 |323=>some {bz:=[.mu [true], .ro, .ro, .bx [false] [false]],res:=[]}
 |325=>some {bz:=[.mu [true]],res:=[]}
 |_=>none
noncomputable def tC(f:Nat):Option G6:=match Tryz.prog.funcs[f]? with
 |some fn=>some ((zFr f).getD (zGk fn))
 |none=>none
noncomputable def B3:BZ:={f:=tC}
theorem zFL:Tryz.prog.follows .mixedOrders=true:=by kernel_rfl
theorem zGS:Tryz.prog.funcs.size<1000000:=by
 have:(decide (Tryz.prog.funcs.size<1000000))=true:=by kernel_rfl
 exact of_decide_eq_true this
theorem KQ(f:Nat)(s:G6)(h:B3 f=some s):f<1000000:=by
 simp only[B3]at h;unfold tC at h;split at h
 ·rename_i fn hf;have:=(Array.getElem?_eq_some_iff.1 hf).1;exact Nat.lt_trans this zGS
 ·cases h
def Xl(P:Program)(sg:BZ)(f:Nat)(xs:List AV)(r:AV):Bool:=
 match P.funcs[f]?,sg f with
 |some fn,some s=> !(fn.name== "runtime.NumGoroutine")&&Ns P fn s r&&xs.length==fn.params.size+fn.nfree
 |_,_=>false
abbrev Den(t:Tr)(r:AV)(xs:List AV):Prop:=t.den (Cl Tryz.prog B3) (λr'=>r'=r) (λ_ _ _ _=>False) [] xs
theorem G0{f:Nat}{t:Tr}{xs:List AV}{r:AV}(hc:Ut Tryz.prog B3 f=some t)(hk:Xl Tryz.prog B3 f xs r=true)(hd:Den t r xs):Cl Tryz.prog B3 f xs r:=by
 unfold Xl at hk;split at hk
 ·rename_i fn s hf hs;simp only[Ab,Bf,AK]at hk;unfold Cl;rw[if_pos (KQ f s hs)];exact⟨s,hs,zCm zFL KQ hf hs hk.1.1 hc hk.1.2 hk.2 hd⟩
 ·cases hk
section
variable {Rt:Nat->List AV->AV->Prop} {R:AV->Prop} {L:LK} {js:List JK} {ρ:List AV}
theorem yP{i:EL}{b k:Tr}(hL:Kn L)(I:Nat->List AV->Prop){m:Nat}(h0:I m (i.den ρ))(Gp:∀m vs,I m vs->b.den Rt R L ((λus=> ∃m',m'<m/\I m' us)::(λus=>k.den Rt R L js (ρ++us))::js) (ρ++vs)):(Tr.loop i b k).den Rt R L js ρ:=by
 have hb:∀W W':JK,(∀vs,W vs->W' vs)-> ∀vs,b.den Rt R L (W::(λus=>k.den Rt R L js (ρ++us))::js) (ρ++vs)->b.den Rt R L (W'::(λus=>k.den Rt R L js (ρ++us))::js) (ρ++vs):=
  λW W' hW vs hv=>b.ff hL hv (.cons hW (Ef.refl _))
 have mono:∀n vs,Jh (λW vs=>b.den Rt R L (W::(λus=>k.den Rt R L js (ρ++us))::js) (ρ++vs)) n vs-> ∀n',n<=n'->Jh (λW vs=>b.den Rt R L (W::(λus=>k.den Rt R L js (ρ++us))::js) (ρ++vs)) n' vs:=by
  intro n
  induction n with
  |zero=>intro vs h;exact h.elim
  |succ n ih=>
   intro vs h n' hn;cases n' with
   |zero=>omega
   |succ n'=>exact hb _ _ (λus hu=>ih us hu n' (by omega)) vs h
 have key:∀m vs,I m vs->Jh (λW vs=>b.den Rt R L (W::(λus=>k.den Rt R L js (ρ++us))::js) (ρ++vs)) (m+1) vs:=by
  intro m
  induction m using Nat.strongRecOn with
  |_ m ih=>intro vs hI;exact hb _ _ (λus ⟨m',hm,hu⟩=>mono _ _ (ih m' hm us hu) m (by omega)) vs (Gp m vs hI)
 exact⟨m+1,key m _ h0⟩
theorem lA:Kn (λ_ _ _ _=>False):=λ_ _ _ _ _ _ h=>h
end
@[simp] theorem zGD(ρ:List AV):Bt ρ []↔True:=⟨λ_=>trivial,λ_=>E1 ρ⟩
@[simp] theorem zGq(ρ:List AV)(x:E)(b:Bool)(gs:Gd):Bt ρ ((x,b)::gs)↔x.den ρ= .bool b/\Bt ρ gs:=
 ⟨λh=>⟨h (x,b) (by simp),λg hg=>h g (by simp[hg])⟩,λh g hg=>by rcases Ae.1 hg with rfl|hg;exact h.1;exact h.2 g hg⟩
attribute [simp] E.den EL.den Cn.den AV.fld AV.proj AV.deref AV.len AV.slen AV.idx AV.nth AV.ej AV.ib AV.conv AV.bin AV.bbin AV.sbin AV.app AV.c6 AV.rep
@[simp] theorem zES(cs:List AV):(AV.agg cs).cells=cs:=rfl
@[simp] theorem zFA(k:IntKind)(n:Int):(AV.int k n).cells=[.int k n]:=rfl
@[simp] theorem zEO(b:Bool):(AV.bool b).cells=[.bool b]:=rfl
@[simp] theorem zEV(s:List UInt8):(AV.str s).cells=[.str s]:=rfl
@[simp] theorem zFS(xs:List AV):(AV.sl xs).cells=[.sl xs]:=rfl
@[simp] theorem zEQ(k:IntKind)(n:Int):(AV.int k n).scalar=true:=rfl
@[simp] theorem zEy(b:Bool):(AV.bool b).scalar=true:=rfl
@[simp] theorem zEM(s:List UInt8):(AV.str s).scalar=true:=rfl
@[simp] theorem zF9(b c d:Bool):AV.cond (.bool b) (.bool c) (.bool d)= .bool (bif b then c else d):=by cases b<;>rfl
theorem zwb{y:AV}(h:y.scalar=true):y.cells=[y]:=by cases y<;>first|rfl|simp[AV.scalar]at h
theorem CM{n:Int}(h1: -9223372036854775808<=n)(h2:n<=9223372036854775807):IntKind.i64.wrap n=n:=by rw[IntKind.wrap_i64];omega
end Go.Proofs.YtalagilebkaegaaGreat
end
section
namespace Go.Proofs.YtalagilebkaegaaGreat
open Go.RowKit
section
variable {Rt:Nat->List AV->AV->Prop} {R:AV->Prop} {L:LK} {js:List JK} {ρ:List AV}
theorem Dq{gs:Gd}{c:Cn}{k:Tr}(h:Bt ρ gs->c.den ρ)(hk:k.den Rt R L js ρ):(Tr.ca gs c k).den Rt R L js ρ:=⟨h,hk⟩
theorem oC{gs:Gd}{f:Nat}{args:EL}{k:Tr}{r:AV}(h:Bt ρ gs->Rt f (args.den ρ) r)(hk:k.den Rt R L js (ρ++ [r])):(Tr.call gs (.inl f) args k).den Rt R L js ρ:=⟨r,h,hk⟩
theorem mO{gs:Gd}{x:E}{args:EL}{k:Tr}{r:AV}(h:Bt ρ gs-> ∃g caps,x.den ρ= .fn g caps/\Rt (1000000+g) (args.den ρ++caps) r/\ ∀y∈r.cells,y.scalar=true)(hk:k.den Rt R L js (ρ++ [r])):(Tr.call gs (.inr x) args k).den Rt R L js ρ:=⟨r,h,hk⟩
theorem F0{c:E}{a b:Tr}{t:Bool}(h:c.den ρ= .bool t)(ha:t=true->a.den Rt R L js ρ)(hb:t=false->b.den Rt R L js ρ):(Tr.ite c a b).den Rt R L js ρ:=⟨t,h,ha,hb⟩
theorem Kh{r:E}(h:R (r.den ρ)):(Tr.ret r).den Rt R L js ρ:=h
theorem VF{es:EL}{j:JK}(h:j (es.den ρ)):(Tr.jmp 0 es).den Rt R L (j::js) ρ:=h
theorem oD{es:EL}{i j:JK}(h:j (es.den ρ)):(Tr.jmp 1 es).den Rt R L (i::j::js) ρ:=h
end
def zz2(cn:Nat)(xs:List AV):Prop:= ∀x∈xs,∃cs,x= .agg cs/\cs.length=cn
theorem zz2.at{cn:Nat}{xs:List AV}(h:zz2 cn xs){q:Nat}(hq:q<xs.length):∃cs,xs[q]= .agg cs/\cs.length=cn:=h _ (AF hq)
section
variable {Rt:Nat->List AV->AV->Prop} {R:AV->Prop} {L:LK} {js:List JK} {ρ:List AV} {α β σ τ:Type}
theorem zFi{x:E}{sz:Nat}{xs:List α}(f:α->AV)(hx:x.den ρ= .sl (xs.map f))(hf:∀y,(f y).cells.length=sz):Cn.den ρ (.issl x sz):=⟨_,hx,by simp[hf]⟩
theorem zEk{x:E}{sz:Nat}{xs:List α}(f:α->AV)(hx:x.den ρ= .sl (xs.map f))(hf:∀y,(f y).cells.length=sz/\ ∀z∈(f y).cells,z.scalar=true):Cn.den ρ (.flatS x sz):=⟨_,hx,by simp only[List.mem_map];rintro _ ⟨y,_,rfl⟩;exact hf y⟩
end
@[simp] def Ks(n:Int):AV:= .int .i64 n
@[simp] def pF(b:Bool):AV:= .bool b
@[simp] def DF(x:List UInt8):AV:= .str x
attribute [simp] Cw SF AV.sidx AV.aeq AV.leq AV.seq AV.sk AV.c8 AV.bytes AV.text
end Go.Proofs.YtalagilebkaegaaGreat
end
section
namespace Go.Proofs.YtalagilebkaegaaGreat
open Go.RowKit
section
variable {P:Program} {w:World}
theorem DN.gx{ts:List TypeId}{vs:List Value}{xs:List AV}{rf lf hs:List Nat}(h:DN P w ts [] [] vs xs rf lf hs):∀(ms:List PM) (lo:List Bool),(∀m∈ms,m= .ro)->DN P w ts ms lo vs xs rf lf hs:=by
 generalize hm:([]:List PM)=m0 at h;generalize hn:([]:List Bool)=n0 at h
 induction h with
 |nil=>intro ms lo _;exact .nil
 |lent h1 _ _ _ _=>subst hn;cases h1
 | @cons t ts ms' lo' v vs x xs f h rf lf hs Be _ ih=>
  subst hm;subst hn;intro ms lo ER;refine .cons ?_ (ih rfl rfl ms.tail lo.tail λm hm=>ER m (List.mem_of_mem_tail hm));have:ms.headD .ro= .ro:=by cases ms with|nil=>rfl|cons m ms=>exact ER m (by simp)
  rw[this];exact Be
 |free h1 _ ih=>subst hm;subst hn;intro ms lo ER;exact .free h1 (ih rfl rfl ms.tail lo.tail λm hm=>ER m (List.mem_of_mem_tail hm))
theorem DL.gx{ts:List TypeId}{ms:List PM}{vs:List Value}{Bs:List AV}{f o:List Nat}(h:DL P w ts ms vs Bs f o)(ER:∀m∈ms,m= .ro):DL P w ts [] vs Bs f o:=by
 have hd:∀{ms:List PM},(∀m∈ms,m= .ro)->ms.headD .ro= .ro:=by intro ms h;cases ms with|nil=>rfl|cons m ms=>exact h m (by simp)
 induction h with
 |nil=>exact .nil
 |ro _ _ ih=>exact .ro rfl (ih λm hm=>ER m (List.mem_of_mem_tail hm))
 |va h9 _ _=>rw[hd ER]at h9;cases h9
 |mu h9 _ _ _ _=>rw[hd ER]at h9;cases h9
 |bx h9 _ _ _ _ _ _ _ _=>rw[hd ER]at h9;cases h9
end
noncomputable def pA(f:Nat)(r:AV):Bool:=
 match Tryz.prog.funcs[f]?,B3 f with
 |some fn,some s=>s.bz.all (λm=>match m with| .ro=>true|_=>false)&&(s.ft.isEmpty&& !s.sh)&&(match(Dv fn s)with| [t]=> !F4 Tryz.prog t s.res|_=>false)&&Ns Tryz.prog fn {bz:=[],res:=[]} r
 |_,_=>false
theorem zzy{f:Nat}{xs:List AV}{r:AV}(h:Cl Tryz.prog B3 f xs r)(hp:pA f r=true):Cl Tryz.prog B3 (1000000+f) xs r:=by
 unfold pA at hp;split at hp
 ·rename_i fn s hf hs;simp only[Ab,Bj]at hp;obtain⟨⟨⟨h1,Cz⟩,h2⟩,h3⟩:=hp;obtain⟨Cz,dU⟩:s.ft=[]/\s.sh=false:=by simpa using Cz
  have HV:Dv fn s=fn.resultTypes.toList:=by simp[Dv,dU]
  have dQ:Dv fn {bz:=[],res:=[]}=fn.resultTypes.toList:=rfl;rw[HV]at h2;have Lq:∀m∈s.bz,m= .ro:=λm hm=>by
   have:=h1 m hm;split at this
   ·rfl
   ·cases this
  unfold Cl at h ⊢;rw[if_pos (KQ f s hs)]at h;rw[if_neg (by omega),Nat.add_sub_cancel_left];obtain⟨s',A4,fn',Tq,hb,hn,_,hl,_,hc⟩:=h;rw[hs]at A4;cases A4;rw[hf]at Tq;cases Tq;rw[Cz]at hc;refine⟨fn,hf,hb,hn,h3,hl,by simp,λw vs rf lf A4 Ah hd hd2 B7 D1=>(hc w vs rf lf A4 (Ah.gx _ _ Lq) hd hd2 B7 D1).mono ?_⟩;rintro e w' ⟨v,rfl,⟨R,Bs,f1,o1,f2,o2,e1,e2,e3,e4,e5,e6⟩,hm⟩;rw[Cz]at e3;refine⟨v,rfl,⟨R,Bs,f1,o1,f2,o2,e1,?_,e3.gx Lq,e4,e5,e6⟩,hm⟩;rw[HV]at e2;rw[dQ];unfold KB at e2 ⊢;split at h2
  ·rename_i t ht;rw[ht]at e2 ⊢;simp only at e2 ⊢;unfold D6 at e2 ⊢;have h2:F4 Tryz.prog t s.res=false:=by simpa using h2
   rw[if_neg (by rw[h2];simp)]at e2;rw[if_neg (by simp[F4])];exact e2
  ·cases h2
 ·cases hp
section
variable {Rt:Nat->List AV->AV->Prop} {R:AV->Prop} {L:LK} {js:List JK} {ρ:List AV}
theorem zO{i:EL}{b k:Tr}(hL:Kn L)(n:Nat)(st:Nat->List AV)(J:Nat->Prop)(hJ:J 0)(h0:i.den ρ=st 0)(hb:∀q,q<=n->J q-> ∀W:JK,(q<n->J (q+1)->W (st (q+1)))->b.den Rt R L (W::(λus=>k.den Rt R L js (ρ++us))::js) (ρ++st q)):(Tr.loop i b k).den Rt R L js ρ:=by refine yP hL (λm vs=> ∃q,q+m=n/\vs=st q/\J q) (m:=n) ⟨0,by omega,h0,hJ⟩ ?_;rintro m vs ⟨q,hq,rfl,hj⟩;exact hb q (by omega) hj _ λAG Oi=>⟨m-1,by omega,q+1,by omega,rfl,Oi⟩
end
def SL(cn:Nat):Tr:=
 .ca [] (.dfd (.len (.var 0)))<|
 .loop (.cons (.int .i64 (0)) .nil) (
  .ca [] (.dfd (.bin .lss (.var 2) (.len (.var 0))))<|
  .ite (.bin .lss (.var 2) (.len (.var 0))) (
  .ca [] (.inb (.var 2) (.var 0) cn)<|
  .call [] (.inr (.var 1)) (.cons (.fld (.idx (.var 0) (.var 2)) 0 cn true) .nil)<|
  .ite (.var 3) (
   .ret (.var 2)) (
   .ca [] (.dfd (.bin .add (.var 2) (.int .i64 (1))))<|
   .jmp 0 (.cons (.bin .add (.var 2) (.int .i64 (1))) .nil))) (
  .jmp 1 .nil)) (
  .ret (.int .i64 (-1)))
def o9:Tr:=
 .ca [] (.dfd (.len (.var 0)))<|
 .loop (.cons (.int .i64 (0)) .nil) (
  .ca [] (.dfd (.bin .lss (.var 2) (.len (.var 0))))<|
  .ite (.bin .lss (.var 2) (.len (.var 0))) (
  .ca [] (.inb (.var 2) (.var 0) 1)<|
  .call [] (.inr (.var 1)) (.cons (.fld (.idx (.var 0) (.var 2)) 0 1 false) .nil)<|
  .ite (.var 3) (
   .ret (.var 2)) (
   .ca [] (.dfd (.bin .add (.var 2) (.int .i64 (1))))<|
   .jmp 0 (.cons (.bin .add (.var 2) (.int .i64 (1))) .nil))) (
  .jmp 1 .nil)) (
  .ret (.int .i64 (-1)))
def Fe{α:Type}(p:α->Option Bool):List α->Int->Option Int
 | [],_=>some (-1)
 |x::xs,i=>(p x).bind λb=>if b=true then some i else Fe p xs (i+1)
noncomputable def Gu{α:Type}(xs:List α)(p:α->Option Bool):Option Int:=AL (xs.length<=9223372036854775806) (Fe p xs 0)
noncomputable def E0{α:Type}(xs:List α)(p:α->Option Bool):Option Bool:=(Gu xs p).bind λi=>some (decide (i>=0))
noncomputable def Pr{α:Type}(bytes:Nat)(xs:List α):Option (List α):=AL ((xs.length:Int)*bytes<=140737488355328/\(xs.length:Int)<=140737488355328) (some xs)
theorem yC{α:Type}{p:α->Option Bool}{l:List α}{r:Int}{q:Nat}(hq:q<l.length)(h:Fe p (l.drop q) q=some r):∃b,p l[q]=some b/\(b=true->r=q)/\(b=false->Fe p (l.drop (q+1)) ((q+1:Nat):Int)=some r):=by
 rw[Bv hq]at h;obtain⟨b,hb,h⟩:=KX h;refine⟨b,hb,?_,?_⟩
 ·rintro rfl;simpa using h.symm
 ·rintro rfl;simpa using h
theorem aG{α:Type}{av:α->AV}{l:List α}{p:α->Option Bool}{cn g:Nat}{caps:List AV}{r:Int}(hs:∀x,∃cs,av x= .agg cs/\cs.length=cn)(h:Gu l p=some r)(hf:∀x b,p x=some b->Cl Tryz.prog B3 (1000000+g) (av x::caps) (.bool b)):Den (SL cn) (.int .i64 r) [.sl (l.map av), .fn g caps]:=by
 obtain⟨hn,h⟩:=F6 h;unfold Den SL;refine Dq (by simp) ?_;refine zO lA l.length (λq=> [.int .i64 q]) (λq=>Fe p (l.drop q) q=some r) (by simpa using h) (by simp) λq hq hJ W hW=> ?_;by_cases AG:q<l.length
 ·obtain⟨cs,hc,hl⟩:=hs l[q];obtain⟨b,hb,Dx,F8⟩:=yC AG hJ;refine Dq (by simp[Cw]) (F0 (t:=true) (by simp[Cw,AG]) (λ_=> ?_) (by simp));refine Dq (λ_=>⟨.i64,q,l.length,by simp,by omega,by simp,by omega,by simp[AG,hc,hl]⟩) (mO (r:= .bool b) (λ_=>⟨g,caps,by simp,?_,by simp⟩) ?_)
  ·have:=hf l[q] b hb;rw[hc]at this;simpa[AG,hc,<-hl]using this
  ·cases b with
   |true=>exact F0 (t:=true) (by simp) (λ_=>Kh (by simp[Dx rfl])) (by simp)
   |false=>refine F0 (t:=false) (by simp) (by simp) λ_=>Dq (by simp[Cw]) (VF ?_);have:=hW AG (F8 rfl);simpa[Cw,CM (n:=(q:Int)+1) (by omega) (by omega)]using this
 ·have I4:q=l.length:=by omega
  subst I4;have hr:r= -1:=by simpa[Fe]using hJ.symm
  refine Dq (by simp[Cw]) (F0 (t:=false) (by simp[Cw]) (by simp) λ_=>oD ?_);exact Kh (by simp[hr])
theorem zCE{α:Type}{av:α->AV}{l:List α}{p:α->Option Bool}{g:Nat}{caps:List AV}{r:Int}(hs:∀x,(av x).cells=[av x])(h:Gu l p=some r)(hf:∀x b,p x=some b->Cl Tryz.prog B3 (1000000+g) (av x::caps) (.bool b)):Den o9 (.int .i64 r) [.sl (l.map av), .fn g caps]:=by
 obtain⟨hn,h⟩:=F6 h;unfold Den o9;refine Dq (by simp) ?_;refine zO lA l.length (λq=> [.int .i64 q]) (λq=>Fe p (l.drop q) q=some r) (by simpa using h) (by simp) λq hq hJ W hW=> ?_;by_cases AG:q<l.length
 ·obtain⟨b,hb,Dx,F8⟩:=yC AG hJ;refine Dq (by simp[Cw]) (F0 (t:=true) (by simp[Cw,AG]) (λ_=> ?_) (by simp));refine Dq (λ_=>⟨.i64,q,l.length,by simp,by omega,by simp,by omega,by simp[AG,hs]⟩) (mO (r:= .bool b) (λ_=>⟨g,caps,by simp,?_,by simp⟩) ?_)
  ·have:=hf l[q] b hb;simpa[AG,hs]using this
  ·cases b with
   |true=>exact F0 (t:=true) (by simp) (λ_=>Kh (by simp[Dx rfl])) (by simp)
   |false=>refine F0 (t:=false) (by simp) (by simp) λ_=>Dq (by simp[Cw]) (VF ?_);have:=hW AG (F8 rfl);simpa[Cw,CM (n:=(q:Int)+1) (by omega) (by omega)]using this
 ·have I4:q=l.length:=by omega
  subst I4;have hr:r= -1:=by simpa[Fe]using hJ.symm
  refine Dq (by simp[Cw]) (F0 (t:=false) (by simp[Cw]) (by simp) λ_=>oD ?_);exact Kh (by simp[hr])
def SN(f:Nat):Tr:=
 .call [] (.inl f) (.cons (.var 0) (.cons (.var 1) .nil))<|
 .ca [] (.dfd (.bin .geq (.var 2) (.int .i64 (0))))<|
 .ret (.bin .geq (.var 2) (.int .i64 (0)))
theorem Z7{α:Type}{l:List α}{p:α->Option Bool}{f:Nat}{x y:AV}{r:Bool}(h:E0 l p=some r)(hf:∀i,Gu l p=some i->Cl Tryz.prog B3 f [x,y] (.int .i64 i)):Den (SN f) (.bool r) [x,y]:=by obtain⟨i,hi,h⟩:=KX h;unfold Den SN;refine oC (λ_=>by simpa using hf i hi) (Dq (by simp[Cw]) (Kh ?_));simp only[Ad]at h;simp[Cw,<-h]
def Wi(bytes sz:Nat):Tr:=
 .ca [] (.dfd (.len (.var 0)))<|
 .b8 [] (.var 0)<|
 .ite (.var 1) (
  .ret (.lst .nil)) (
  .ca [] (.room (.lst .nil) (.var 0) bytes)<|
  .ca [] (.flatS (.var 0) sz)<|
  .ret (.app (.lst .nil) (.var 0)))
def oL(bytes sz:Nat):Tr:=
 .ca [] (.dfd (.len (.var 0)))<|
 .b8 [] (.var 0)<|
 .ite (.var 1) (
  .ret (.lst .nil)) (
  .ca [] (.room (.lst .nil) (.var 0) bytes)<|
  .ca [] (.issl (.var 0) sz)<|
  .ret (.app (.lst .nil) (.var 0)))
theorem mT{α:Type}{av:α->AV}{xs r:List α}{bytes sz:Nat}(hs:∀x,(av x).cells.length=sz/\ ∀z∈(av x).cells,z.scalar=true)(h:Pr bytes xs=some r):Den (Wi bytes sz) (.sl (r.map av)) [.sl (xs.map av)]:=by
 obtain⟨hq,h⟩:=F6 h;cases h;unfold Den Wi;refine Dq (by simp) λb hb=> ?_;cases b with
 |true=>have:=hb (by simp) rfl;exact F0 (t:=true) (by simp) (λ_=>Kh (by simpa using this.symm)) (by simp)
 |false=>exact F0 (t:=false) (by simp) (by simp) λ_=>Dq (λ_=>⟨0,xs.length,by simp,by simp,by simpa using hq.1,by simpa using hq.2⟩) (Dq (λ_=>zEk (xs:=xs) av (by simp) hs) (Kh (by simp)))
theorem zyu{α:Type}{av:α->AV}{xs r:List α}{bytes sz:Nat}(hs:∀x,(av x).cells.length=sz)(h:Pr bytes xs=some r):Den (oL bytes sz) (.sl (r.map av)) [.sl (xs.map av)]:=by
 obtain⟨hq,h⟩:=F6 h;cases h;unfold Den oL;refine Dq (by simp) λb hb=> ?_;cases b with
 |true=>have:=hb (by simp) rfl;exact F0 (t:=true) (by simp) (λ_=>Kh (by simpa using this.symm)) (by simp)
 |false=>exact F0 (t:=false) (by simp) (by simp) λ_=>Dq (λ_=>⟨0,xs.length,by simp,by simp,by simpa using hq.1,by simpa using hq.2⟩) (Dq (λ_=>zFi (xs:=xs) av (by simp) hs) (Kh (by simp)))
end Go.Proofs.YtalagilebkaegaaGreat
end
section
namespace Go.Proofs.YtalagilebkaegaaGreat
open Go.ChangeShapes Go.WideShapes Go.ChangeAt Go.RowKit
theorem zB3{P:Program}{w:World}:DN P w [] [] [] [] [] [] [] []:= .nil
theorem yK{P:Program}{w:World}{t:TypeId}{ts:List TypeId}{v:Value}{vs:List Value}{x:AV}{xs:List AV}{f rf:List Nat}(h:Rd w [v] [x] f)(k:DN P w ts [] [] vs xs rf [] []):DN P w (t::ts) [] [] (v::vs) (x::xs) (f++rf) [] []:=
 DN.cons (h:=[]) (hs:=[]) (ms:=[]) (lo:=[]) ⟨h,rfl⟩ k
theorem zB8{P:Program}{sg:BZ}{f:Nat}{fn:Func}{t:TypeId}{xs:List AV}(h:Cl P sg f xs (.bool true))(hf:f<1000000){s:G6}(hs:sg f=some s)(Cz:s.ft=[])(Lq:∀m∈s.bz,m= .ro)(B5:F4 P t s.res=false)(It:P.funcs[f]?=some fn)(hr:(Dv fn s)=[t])
  {w:World} {vs:List Value} {rf:List Nat} (ha:DN P w fn.params.toList [] [] vs xs rf [] []) (D1:Lx.n<=w.heap.size/\Lx.K w):
  Calls P f vs.toArray w λe w'=>e= .returned (.bool true)/\Below w.heap.size w w':=by
 unfold Cl at h;rw[if_pos hf]at h;obtain⟨s',A4,fn',Jz,_,_,_,_,_,hc⟩:=h;rw[hs]at A4;obtain rfl:=Option.some.inj A4;rw[It]at Jz;obtain rfl:=Option.some.inj Jz;refine(hc w vs rf [] [] (by rw[Cz,AE];exact ha.gx _ _ Lq) (by simp) (by simp) (by simp) ⟨D1.1,D1.2,by simp⟩).mono λe w' ⟨v,he,hp⟩=> ?_;obtain⟨⟨R,bs,f1,o1,f2,o2,hR,AN,_⟩,hm⟩:=hp;have hRt:R= .bool true:=by
  cases bs with
  |nil=>exact hR.symm
  |cons=>cases hR
 subst hRt;rw[hr]at AN;have h2:D6 P w' t s.res v (.bool true) f1 o1:=AN;unfold D6 at h2;rw[B5]at h2;obtain⟨h3,_⟩:=h2;have:v= .bool true:=by cases h3;rfl
 subst this;exact⟨he,hm.below⟩
section
variable {P:Program} {t:TypeId} {Q:List AV->Prop} {H:Type} {enc:TypeId × Value->H} {w:World} {spare:Nat->Bool} {held:Bool} {v:Value} {d:DataW H} {p:List MemPlace} {r:Reach} {base:Nat}
theorem wZ{fs:Array Field}(hO:CP P t Q)(ht:P.underlying t=some (.struct fs))(hv:Value.okWide P w r base t v)(h:DataW.Trod enc P w 0 spare held t v d p):∃xs f,Rd w [v] [.agg xs] f/\Q xs:=by obtain⟨n,h⟩:=h;obtain⟨cs,rfl,_⟩:=okWide_struct ht hv;obtain⟨_,h1,xs,f,hr,hq⟩:=hO.2 _ _ _ _ _ _ _ _ h;refine⟨xs,f++ [],?_,hq⟩;have:=Rd.agg (w:=w) h1 hr .nil;simpa[Value.cells]using this
end
theorem zFv{a b:Bool}(ha:a=true)(hb:b=true):(a&&b)=true:=by rw[ha,hb];rfl
def G1(n:Int):Prop:= -9223372036854775808<=n/\n<=9223372036854775807
def okB(_:Bool):Prop:=True
def Kr(s:List UInt8):Prop:=s.length<=9223372036854775807
def DI{α:Type}(ok:α->Prop)(l:List α):Prop:=l.length<=9223372036854775807/\ ∀x∈l,ok x
theorem zGg{n:Int}(h:E3 .i64 n):G1 n:=by unfold E3 at h;rw[IntKind.wrap_i64]at h;unfold G1;omega
section
variable {P:Program} {t e:TypeId} {α:Type} {ok:α->Prop} {av:α->AV}
theorem zGm(ht:P.underlying t=some (.int .i64))(hc:P.cellsOf t=1):CP P t λxs=> ∃n,G1 n/\xs=[Ks n]:=
 (zDI ht hc).mono λ_ ⟨n,h,e⟩=>⟨n,zGg h,e⟩
theorem opB(ht:P.underlying t=some .bool)(hc:P.cellsOf t=1):CP P t λxs=> ∃b,okB b/\xs=[pF b]:=
 (zBF ht hc).mono λ_ ⟨b,e⟩=>⟨b,trivial,e⟩
theorem zGx(ht:P.underlying t=some .string)(hc:P.cellsOf t=1):CP P t λxs=> ∃s,Kr s/\xs=[DF s]:=
 (zyt ht hc).mono λ_ ⟨s,h,e⟩=>⟨s,h,e⟩
theorem zE:∀{ys:List AV},(∀y∈ys,IV true (λxs=> ∃c,ok c/\ .agg xs=av c) y)-> ∃l:List α,(∀c∈l,ok c)/\ys=l.map av
 | [],_=>⟨[],by simp,rfl⟩
 |y::ys,h=>by obtain⟨l,hl,rfl⟩:=zE λz hz=>h z (List.mem_cons_of_mem _ hz);have h0:=h y (List.mem_cons_self ..);simp only[IV,if_true]at h0;obtain⟨zs,rfl,c,hk,hc⟩:=h0;exact⟨c::l,by simpa using⟨hk,hl⟩,by simp[hc]⟩
theorem zH:∀{ys:List AV},(∀y∈ys,IV false (λxs=> ∃c,ok c/\xs=[av c]) y)-> ∃l:List α,(∀c∈l,ok c)/\ys=l.map av
 | [],_=>⟨[],by simp,rfl⟩
 |y::ys,h=>by obtain⟨l,hl,rfl⟩:=zH λz hz=>h z (List.mem_cons_of_mem _ hz);have h0:=h y (List.mem_cons_self ..);simp only[IV,AW,if_false]at h0;obtain⟨_,c,hk,hc⟩:=h0;exact⟨c::l,by simpa using⟨hk,hl⟩,by simp at hc;simp[hc]⟩
theorem PJ(ht:P.underlying t=some (.slice e))(hc:P.cellsOf t=1)(he:CP P e λxs=> ∃c,ok c/\ .agg xs=av c):CP P t λxs=> ∃l:List α,DI ok l/\xs=[.sl (l.map av)]:=
 (xP true ht hc he (.inl rfl)).mono λ_ ⟨ys,hl,hy,e⟩=>by obtain⟨l,hk,rfl⟩:=zE hy;exact⟨l,⟨by simpa using hl,hk⟩,e⟩
theorem zGr(ht:P.underlying t=some (.slice e))(hc:P.cellsOf t=1)(Mn:P.cellsOf e=1)(he:CP P e λxs=> ∃c,ok c/\xs=[av c]):CP P t λxs=> ∃l:List α,DI ok l/\xs=[.sl (l.map av)]:=
 (xP false ht hc he (.inr Mn)).mono λ_ ⟨ys,hl,hy,e⟩=>by obtain⟨l,hk,rfl⟩:=zH hy;exact⟨l,⟨by simpa using hl,hk⟩,e⟩
end
end Go.Proofs.YtalagilebkaegaaGreat
end
section
namespace Go.Proofs.YtalagilebkaegaaGreat
open Go.RowKit
set_option maxRecDepth 100000
structure Am where
 ah:List UInt8
 bg:List UInt8
 bf:Bool
@[simp] def Sj(x:Am):AV:= .agg [.str x.ah, .str x.bg, .bool x.bf]
structure Ax where
 al:Int
 af:Int
 bq:Int
 ak:List (List UInt8)
 ab:List Am
@[simp] def aK(x:Ax):AV:= .agg [.int .i64 x.al, .int .i64 x.af, .int .i64 x.bq, .sl (x.ak.map DF), .sl (x.ab.map Sj)]
structure Bh where
 al:Int
 bk:Bool
 af:Int
@[simp] def aI(x:Bh):AV:= .agg [.int .i64 x.al, .bool x.bk, .int .i64 x.af]
structure BE where
 af:Int
 bg:List UInt8
 bf:Bool
@[simp] def Ko(x:BE):AV:= .agg [.int .i64 x.af, .str x.bg, .bool x.bf]
structure Ai where
 ah:List UInt8
 aw:List BE
@[simp] def DJ(x:Ai):AV:= .agg [.str x.ah, .sl (x.aw.map Ko)]
structure Aj where
 aq:Int
 aj:List Ai
 ae:List Ax
 ao:List Bh
@[simp] def aD(x:Aj):AV:= .agg [.int .i64 x.aq, .sl (x.aj.map DJ), .sl (x.ae.map aK), .sl (x.ao.map aI)]
structure AM where
 al:Int
 ak:List (List UInt8)
 ab:List Am
@[simp] def aC(x:AM):AV:= .agg [.int .i64 x.al, .sl (x.ak.map DF), .sl (x.ab.map Sj)]
structure Az where
 az:List (List UInt8)
 ax:List Aj
 ar:List AM
@[simp] def eU(x:Az):AV:= .agg [.sl (x.az.map DF), .sl (x.ax.map aD), .sl (x.ar.map aC)]
structure Ea where
 bb:Int
 al:Int
 bm:Int
 af:Int
@[simp] def mV(x:Ea):AV:= .agg [.int .i64 x.bb, .int .i64 x.al, .int .i64 x.bm, .int .i64 x.af]
structure Bu where
 bb:Int
 al:Int
 af:Int
 bq:Int
 ak:List (List UInt8)
 ab:List Am
 bk:Bool
@[simp] def zGh(x:Bu):AV:= .agg [.int .i64 x.bb, .int .i64 x.al, .int .i64 x.af, .int .i64 x.bq, .sl (x.ak.map DF), .sl (x.ab.map Sj), .bool x.bk]
end Go.Proofs.YtalagilebkaegaaGreat
end
section
namespace Go.Proofs.YtalagilebkaegaaGreat
open Go.ChangeShapes Go.WideShapes Go.ChangeAt Go.RowKit
set_option maxRecDepth 100000
theorem Uf:CP Tryz.prog 9 λxs=> ∃s,Kr s/\xs=[DF s]:=zGx Tryz.underlying9 (by kernel_rfl)
theorem eO:CP Tryz.prog 24 λxs=> ∃l:List (List UInt8),DI Kr l/\xs=[.sl (l.map DF)]:=zGr Tryz.underlying24 (by kernel_rfl) (by kernel_rfl) Uf
theorem Ja:CP Tryz.prog 3 λxs=> ∃n,G1 n/\xs=[Ks n]:=zGm Tryz.underlying3 (by kernel_rfl)
theorem fL:CP Tryz.prog 4 λxs=> ∃b,okB b/\xs=[pF b]:=opB Tryz.underlying4 (by kernel_rfl)
def Uk(x:BE):Prop:=G1 x.af/\Kr x.bg/\okB x.bf
theorem op9:CP Tryz.prog 308 λxs=> ∃x:BE,Uk x/\ .agg xs=Ko x:=
 (LL Tryz.underlying308 (by decide+kernel) (by kernel_rfl) (.cons Ja (.cons Uf (.cons fL .nil)))).mono λ_ ⟨_,_,e0,⟨x0,k0,h0⟩,_,_,e1,⟨x1,k1,h1⟩,_,_,e2,⟨x2,k2,h2⟩,hz⟩=>by subst h2 hz e2 h1 e1 h0 e0;exact⟨⟨x0,x1,x2⟩,⟨k0,k1,k2⟩,by simp⟩
theorem op8:CP Tryz.prog 261 λxs=> ∃l:List BE,DI Uk l/\xs=[.sl (l.map Ko)]:=PJ Tryz.underlying261 (by kernel_rfl) op9
def Wm(x:Ai):Prop:=Kr x.ah/\(DI Uk) x.aw
theorem op7:CP Tryz.prog 263 λxs=> ∃x:Ai,Wm x/\ .agg xs=DJ x:=
 (LL Tryz.underlying263 (by decide+kernel) (by kernel_rfl) (.cons Uf (.cons op8 .nil))).mono λ_ ⟨_,_,e0,⟨x0,k0,h0⟩,_,_,e1,⟨x1,k1,h1⟩,hz⟩=>by subst h1 hz e1 h0 e0;exact⟨⟨x0,x1⟩,⟨k0,k1⟩,by simp⟩
theorem op6:CP Tryz.prog 168 λxs=> ∃l:List Ai,DI Wm l/\xs=[.sl (l.map DJ)]:=PJ Tryz.underlying168 (by kernel_rfl) op7
def Sv(x:Am):Prop:=Kr x.ah/\Kr x.bg/\okB x.bf
theorem zGK:CP Tryz.prog 268 λxs=> ∃x:Am,Sv x/\ .agg xs=Sj x:=
 (LL Tryz.underlying268 (by decide+kernel) (by kernel_rfl) (.cons Uf (.cons Uf (.cons fL .nil)))).mono λ_ ⟨_,_,e0,⟨x0,k0,h0⟩,_,_,e1,⟨x1,k1,h1⟩,_,_,e2,⟨x2,k2,h2⟩,hz⟩=>by subst h2 hz e2 h1 e1 h0 e0;exact⟨⟨x0,x1,x2⟩,⟨k0,k1,k2⟩,by simp⟩
theorem tB:CP Tryz.prog 174 λxs=> ∃l:List Am,DI Sv l/\xs=[.sl (l.map Sj)]:=PJ Tryz.underlying174 (by kernel_rfl) zGK
def We(x:Ax):Prop:=G1 x.al/\G1 x.af/\G1 x.bq/\(DI Kr) x.ak/\(DI Sv) x.ab
theorem zGI:CP Tryz.prog 266 λxs=> ∃x:Ax,We x/\ .agg xs=aK x:=
 (LL Tryz.underlying266 (by decide+kernel) (by kernel_rfl) (.cons Ja (.cons Ja (.cons Ja (.cons eO (.cons tB .nil)))))).mono λ_ ⟨_,_,e0,⟨x0,k0,h0⟩,_,_,e1,⟨x1,k1,h1⟩,_,_,e2,⟨x2,k2,h2⟩,_,_,e3,⟨x3,k3,h3⟩,_,_,e4,⟨x4,k4,h4⟩,hz⟩=>by subst h4 hz e4 h3 e3 h2 e2 h1 e1 h0 e0;exact⟨⟨x0,x1,x2,x3,x4⟩,⟨k0,k1,k2,k3,k4⟩,by simp⟩
theorem zGQ:CP Tryz.prog 169 λxs=> ∃l:List Ax,DI We l/\xs=[.sl (l.map aK)]:=PJ Tryz.underlying169 (by kernel_rfl) zGI
def aO(x:Bh):Prop:=G1 x.al/\okB x.bk/\G1 x.af
theorem zGL:CP Tryz.prog 272 λxs=> ∃x:Bh,aO x/\ .agg xs=aI x:=
 (LL Tryz.underlying272 (by decide+kernel) (by kernel_rfl) (.cons Ja (.cons fL (.cons Ja .nil)))).mono λ_ ⟨_,_,e0,⟨x0,k0,h0⟩,_,_,e1,⟨x1,k1,h1⟩,_,_,e2,⟨x2,k2,h2⟩,hz⟩=>by subst h2 hz e2 h1 e1 h0 e0;exact⟨⟨x0,x1,x2⟩,⟨k0,k1,k2⟩,by simp⟩
theorem zGM:CP Tryz.prog 170 λxs=> ∃l:List Bh,DI aO l/\xs=[.sl (l.map aI)]:=PJ Tryz.underlying170 (by kernel_rfl) zGL
def VZ(x:Aj):Prop:=G1 x.aq/\(DI Wm) x.aj/\(DI We) x.ae/\(DI aO) x.ao
theorem op4:CP Tryz.prog 172 λxs=> ∃x:Aj,VZ x/\ .agg xs=aD x:=
 (LL Tryz.underlying172 (by decide+kernel) (by kernel_rfl) (.cons Ja (.cons op6 (.cons zGQ (.cons zGM .nil))))).mono λ_ ⟨_,_,e0,⟨x0,k0,h0⟩,_,_,e1,⟨x1,k1,h1⟩,_,_,e2,⟨x2,k2,h2⟩,_,_,e3,⟨x3,k3,h3⟩,hz⟩=>by subst h3 hz e3 h2 e2 h1 e1 h0 e0;exact⟨⟨x0,x1,x2,x3⟩,⟨k0,k1,k2,k3⟩,by simp⟩
theorem op3:CP Tryz.prog 57 λxs=> ∃l:List Aj,DI VZ l/\xs=[.sl (l.map aD)]:=PJ Tryz.underlying57 (by kernel_rfl) op4
def VW(x:AM):Prop:=G1 x.al/\(DI Kr) x.ak/\(DI Sv) x.ab
theorem zGO:CP Tryz.prog 176 λxs=> ∃x:AM,VW x/\ .agg xs=aC x:=
 (LL Tryz.underlying176 (by decide+kernel) (by kernel_rfl) (.cons Ja (.cons eO (.cons tB .nil)))).mono λ_ ⟨_,_,e0,⟨x0,k0,h0⟩,_,_,e1,⟨x1,k1,h1⟩,_,_,e2,⟨x2,k2,h2⟩,hz⟩=>by subst h2 hz e2 h1 e1 h0 e0;exact⟨⟨x0,x1,x2⟩,⟨k0,k1,k2⟩,by simp⟩
theorem zGN:CP Tryz.prog 58 λxs=> ∃l:List AM,DI VW l/\xs=[.sl (l.map aC)]:=PJ Tryz.underlying58 (by kernel_rfl) zGO
def pC(x:Az):Prop:=(DI Kr) x.az/\(DI VZ) x.ax/\(DI VW) x.ar
theorem op0:CP Tryz.prog 60 λxs=> ∃x:Az,pC x/\ .agg xs=eU x:=
 (LL Tryz.underlying60 (by decide+kernel) (by kernel_rfl) (.cons eO (.cons op3 (.cons zGN .nil)))).mono λ_ ⟨_,_,e0,⟨x0,k0,h0⟩,_,_,e1,⟨x1,k1,h1⟩,_,_,e2,⟨x2,k2,h2⟩,hz⟩=>by subst h2 hz e2 h1 e1 h0 e0;exact⟨⟨x0,x1,x2⟩,⟨k0,k1,k2⟩,by simp⟩
def xX(x:Ea):Prop:=G1 x.bb/\G1 x.al/\G1 x.bm/\G1 x.af
theorem zGP:CP Tryz.prog 61 λxs=> ∃x:Ea,xX x/\ .agg xs=mV x:=
 (LL Tryz.underlying61 (by decide+kernel) (by kernel_rfl) (.cons Ja (.cons Ja (.cons Ja (.cons Ja .nil))))).mono λ_ ⟨_,_,e0,⟨x0,k0,h0⟩,_,_,e1,⟨x1,k1,h1⟩,_,_,e2,⟨x2,k2,h2⟩,_,_,e3,⟨x3,k3,h3⟩,hz⟩=>by subst h3 hz e3 h2 e2 h1 e1 h0 e0;exact⟨⟨x0,x1,x2,x3⟩,⟨k0,k1,k2,k3⟩,by simp⟩
end Go.Proofs.YtalagilebkaegaaGreat
end
section
namespace Go.Proofs.YtalagilebkaegaaGreat
open Go.RowKit
set_option maxRecDepth 100000
def KM{α:Type}(p:α->Option Bool):List α->Option (List α)
 | []=>some []
 |x::xs=>(p x).bind λb=>(KM p xs).bind λr=>some (if b=true then r else x::r)
noncomputable def Pc{α:Type}(xs:List α)(p:α->Option Bool):Option (List α):=AL (xs.length<=9223372036854775806) (KM p xs)
theorem lS{α:Type}{p:α->Option Bool}(q:α->Bool):∀{l:List α},(∀x∈l,p x=some (q x))->KM p l=some (l.filter λx=> !q x)
 | [],_=>rfl
 |x::l,h=>by have e:=lS (p:=p) q (l:=l) λy hy=>h y (List.mem_cons_of_mem _ hy);simp only[KM,h x (by simp),e,Aa,List.filter_cons];cases q x<;>rfl
theorem zvf{α:Type}{p:α->Option Bool}{l r:List α}{q:Nat}(hq:q<l.length)(h:KM p (l.drop q)=some r):∃b r',p l[q]=some b/\KM p (l.drop (q+1))=some r'/\r=if b=true then r' else l[q]::r':=by rw[Bv hq]at h;obtain⟨b,hb,h⟩:=KX h;obtain⟨r',hr,h⟩:=KX h;exact⟨b,r',hb,hr,by simpa using h.symm⟩
theorem vO{α:Type}{p:α->Option Bool}:∀{l r:List α} (i:Int),KM p l=some r->(Fe p l i=some (-1)/\r=l)\/ ∃k r',k<l.length/\Fe p l i=some (i+(k:Nat))/\KM p (l.drop (k+1))=some r'/\r=l.take k++r'
 | [],r,i,h=>by cases h;exact .inl ⟨rfl,rfl⟩
 |x::l,r,i,h=>by
  obtain⟨b,hb,h⟩:=KX h;obtain⟨r1,hr,h⟩:=KX h;cases b with
  |true=>
   have:r1=r:=by simpa using h
   subst this;exact .inr ⟨0,r1,by simp,by simp[Fe,hb],by simpa using hr,by simp⟩
  |false=>
   have:r=x::r1:=by simpa using h.symm
   subst this;rcases vO (i+1) hr with⟨h1,rfl⟩|⟨k,r',h1,h2,h3,rfl⟩
   ·exact .inl ⟨by simp[Fe,hb,h1],rfl⟩
   ·exact .inr ⟨k+1,r',by simp;omega,by simp[Fe,hb,h2];omega,by simpa using h3,by simp⟩
def sU(ck:List Cn)(k:Tr):Tr:=ck.foldr (λc k=> .ca [] c k) k
section
variable {Rt:Nat->List AV->AV->Prop} {R:AV->Prop} {L:LK} {js:List JK} {ρ:List AV}
theorem zL:∀{ck:List Cn} {k:Tr},(∀c∈ck,c.den ρ)->k.den Rt R L js ρ->(sU ck k).den Rt R L js ρ
 | [],_,_,hk=>hk
 |c::ck,k,h,hk=>⟨λ_=>h c (by simp),zL (λq hq=>h q (by simp[hq])) hk⟩
theorem zBV{t k:Tr}{K:List AV->Prop}(hK:∀vs,K vs->k.den Rt R L js (ρ++vs))(ht:∀j:JK,(∀vs,K vs->j vs)->t.den Rt R L (j::js) ρ):(Tr.join t k).den Rt R L js ρ:=ht _ hK
end
def W7(fi cn:Nat)(g:Bool)(X:E)(ck:List Cn)(z:E):Tr:=
 .call [] (.inl fi) (.cons (.var 0) (.cons (.var 1) .nil))<|
 .ca [] (.dfd (.bin .eql (.var 2) (.int .i64 (-1))))<|
 .ite (.bin .eql (.var 2) (.int .i64 (-1))) (
  .ret (.var 0)) (
  .ca [] (.dfd (.bin .add (.var 2) (.int .i64 (1))))<|
  .loop (.cons (.var 2) (.cons (.bin .add (.var 2) (.int .i64 (1))) (.cons (.var 0) .nil))) (
  .ca [] (.dfd (.len (.var 5)))<|
  .ca [] (.dfd (.bin .lss (.var 4) (.len (.var 5))))<|
  .ite (.bin .lss (.var 4) (.len (.var 5))) (
   .join (
   .ca [] (.inb (.var 4) (.var 5) cn)<|
   sU ck<|
   .call [] (.inr (.var 1)) (.cons X .nil)<|
   .ca [] (.dfd (.not (.var 6)))<|
   .ite (.not (.var 6)) (
    .ca [] (.inb (.var 3) (.var 5) cn)<|
    .ca [] (.flat X cn g)<|
    .ca [] (.flat (.fld (.idx (.var 5) (.var 3)) 0 cn g) cn g)<|
    .ca [] (.dfd (.bin .add (.var 3) (.int .i64 (1))))<|
    .jmp 0 (.cons (.bin .add (.var 3) (.int .i64 (1))) (.cons (.set (.var 5) (.var 3) (.put (.idx (.var 5) (.var 3)) 0 X g)) .nil))) (
    .jmp 0 (.cons (.var 3) (.cons (.var 5) .nil)))) (
   .ca [] (.dfd (.bin .add (.var 4) (.int .i64 (1))))<|
   .jmp 0 (.cons (.var 6) (.cons (.bin .add (.var 4) (.int .i64 (1))) (.cons (.var 7) .nil))))) (
   .jmp 1 (.cons (.var 3) (.cons (.var 5) .nil)))) (
  .ca [] (.win (.var 4) (.var 3) (.len (.var 4)))<|
  .ca [] (.win (.var 4) (.var 3) (.len (.var 4)))<|
  .ca [] (.dfd (.bin .sub (.len (.var 4)) (.var 3)))<|
  .ca [] (.win (.app (.win (.var 4) (.int .i64 (0)) (.var 3)) (.rep (.bin .sub (.len (.var 4)) (.var 3)) z)) (.int .i64 (0)) (.var 3))<|
  .ret (.win (.app (.win (.var 4) (.int .i64 (0)) (.var 3)) (.rep (.bin .sub (.len (.var 4)) (.var 3)) z)) (.int .i64 (0)) (.var 3))))
theorem zzd{α:Type}{av:α->AV}{l r:List α}{p:α->Option Bool}{fi cn g9:Nat}{g:Bool}{X z:E}{ck:List Cn}{caps:List AV}
  (hs:∀x,(av x).cells.length=cn/\(∀z∈(av x).cells,z.scalar=true)/\(g=true-> ∃cs,av x= .agg cs)/\(g=false->(av x).scalar=true)) (hcn:0<cn)
  (hX:∀(a b c d:AV) (j:Nat) (ys:List AV) (x:α) (tl:List AV),ys[j]?=some (av x)->X.den ([a,b,c,d, .int .i64 j, .sl ys]++tl)=av x)
  (Ir:∀(a b c d:AV) (j:Nat) (ys:List AV) (x:α),ys[j]?=some (av x)-> ∀q∈ck,q.den [a,b,c,d, .int .i64 j, .sl ys])
  (h:Pc l p=some r) (hi:∀i,Gu l p=some i->Cl Tryz.prog B3 fi [.sl (l.map av), .fn g9 caps] (.int .i64 i))
  (hf:∀x b,p x=some b->Cl Tryz.prog B3 (1000000+g9) (av x::caps) (.bool b)):Den (W7 fi cn g X ck z) (.sl (r.map av)) [.sl (l.map av), .fn g9 caps]:=by
 obtain⟨hn,h⟩:=F6 h;unfold Den W7;have Lo:∀x y:α,(av y).c8 0 (av x) g=av x:=by
  intro x y;cases g with
  |false=>rfl
  |true=>
   obtain⟨cs,Bx⟩:=(hs x).2.2.1 rfl;have e1:=(hs x).1;have e2:=(hs y).1;have e3:(av x).cells=cs:=by rw[Bx];rfl
   have e4:(av y).cells.drop (0+cs.length)=[]:=List.drop_eq_nil_of_le (by rw[e2,<-e1,e3];omega);show AV.agg ((av y).cells.take 0++(av x).cells++(av y).cells.drop (0+(av x).cells.length))=av x;rw[e3,e4,AE,List.take_zero,List.nil_append,Bx]
 have bX:∀x:α,(av x).fld 0 cn g=av x:=by
  intro x;cases g with
  |false=>have:=zwb ((hs x).2.2.2 rfl);simp[AV.fld,this]
  |true=>obtain⟨cs,Bx⟩:=(hs x).2.2.1 rfl;have e1:=(hs x).1;rw[Bx]at e1 ⊢;simp only[AV.fld,if_true,AV.cells]at e1 ⊢;rw[List.drop_zero,List.take_of_length_le (by omega)]
 have B2:∀(e:E) (ρ:List AV) (x:α),e.den ρ=av x->Cn.den ρ (.flat e cn g):=λe ρ x he=>by
  show(e.den ρ).cells.length=cn/\(∀y∈(e.den ρ).cells,y.scalar=true)/\(g=true-> ∃cs,e.den ρ= .agg cs)/\(g=false->(e.den ρ).scalar=true)
  rw[he];exact hs x
 rcases vO 0 h with⟨h1,rfl⟩|⟨k0,r0,P4,h1,h2,rfl⟩
 ·refine oC (r:= .int .i64 (-1)) (λ_=>hi _ (by unfold Gu;rw[show AL (r.length<=9223372036854775806) (Fe p r 0)=Fe p r 0 from if_pos hn];exact h1)) ?_;exact Dq (by simp[Cw]) (F0 (t:=true) (by simp[Cw]) (λ_=>Kh (by simp)) (by simp))
 ·refine oC (r:= .int .i64 k0) (λ_=>hi _ (by unfold Gu;rw[show AL (l.length<=9223372036854775806) (Fe p l 0)=Fe p l 0 from if_pos hn,h1];simp)) ?_;have hw:IntKind.i64.wrap ((k0:Int)+1)=k0+1:=CM (by omega) (by omega);refine Dq (by simp[Cw]) (F0 (t:=false) (by simp[Cw];try omega) (by simp) λ_=>Dq (by simp[Cw]) ?_);refine yP lA (λm vs=> ∃(j:Nat) (K zs r':List α),j+m=l.length/\vs=[.int .i64 K.length, .int .i64 j, .sl (zs.map av)]/\K.length<j/\zs.length=l.length/\zs.take K.length=K/\zs.drop j=l.drop j/\KM p (l.drop j)=some r'/\l.take k0++r0=K++r') (m:=l.length-(k0+1))
   ⟨k0+1,l.take k0,l,r0,by omega,?_,by simp;omega,rfl,by simp[Nat.min_eq_left (Nat.le_of_lt P4)],rfl,h2,rfl⟩ ?_
  ·simp[Cw,hw,Nat.min_eq_left (Nat.le_of_lt P4)]
  rintro m vs ⟨j,K,zs,r',hj,rfl,hKj,T9,Ua,eJ,CA,AN⟩;refine Dq (by simp) (Dq (by simp[Cw]) ?_);by_cases AG:j<l.length
  ·refine F0 (t:=true) (by simp[Cw,T9,AG]) (λ_=> ?_) (by simp);obtain⟨b,r2,hb,DS,qV⟩:=zvf AG CA;have rD:zs[j]?=some l[j]:=by
    have:=congrArg (λL=>L[0]?) eJ;simpa[AG]using this
   have GU:(zs.map av)[j]?=some (av l[j]):=by simp[rD]
   have S4:K.length<zs.length:=by omega
   have hwj:IntKind.i64.wrap ((j:Int)+1)=j+1:=CM (by omega) (by omega);have hwK:IntKind.i64.wrap ((K.length:Int)+1)=K.length+1:=CM (by omega) (by omega);refine zBV (K:=λus=> ∃(K' zs':List α),us=[.int .i64 K'.length, .sl (zs'.map av)]/\K'.length<j+1/\zs'.length=l.length/\zs'.take K'.length=K'/\zs'.drop (j+1)=l.drop (j+1)/\l.take k0++r0=K'++r2) ?_ ?_
   ·rintro us ⟨K',zs',rfl,a1,a2,a3,a4,a5⟩;refine Dq (by simp[Cw]) (VF ⟨m-1,by omega,j+1,K',zs',r2,by omega,?_,a1,a2,a3,a4,DS,a5⟩);simp[Cw,hwj]
   ·intro J hJ;refine Dq (λ_=>⟨.i64,j,zs.length,by simp,by omega,by simp,by omega,?_⟩) (zL (Ir _ _ _ _ j (zs.map av) _ GU) (mO (r:= .bool b) (λ_=>⟨g9,caps,by simp,?_,by simp⟩) ?_))
    ·simp[AV.nth,rD,(hs l[j]).1]
    ·have e1:=hX (.sl (l.map av)) (.fn g9 caps) (.int .i64 k0) (.int .i64 K.length) j (zs.map av) l[j] [] GU;rw[AE]at e1;show Cl Tryz.prog B3 (1000000+g9) ([X.den [.sl (l.map av), .fn g9 caps, .int .i64 k0, .int .i64 K.length, .int .i64 j, .sl (zs.map av)]]++caps) (.bool b);rw[e1];exact hf _ _ hb
    ·refine Dq (by simp) ?_;have e2:=hX (.sl (l.map av)) (.fn g9 caps) (.int .i64 k0) (.int .i64 K.length) j (zs.map av) l[j] [.bool b] GU;cases b with
     |true=>refine F0 (t:=false) (by simp) (by simp) λ_=>VF (hJ _ ⟨K,zs,by simp,by omega,T9,Ua,?_,by rw[AN,qV];simp⟩);have:=congrArg (List.drop 1) eJ;simpa[List.drop_drop]using this
     |false=>
      refine F0 (t:=true) (by simp) (λ_=> ?_) (by simp);obtain⟨zk,Uc⟩:∃zk,zs[K.length]?=some zk:=⟨zs[K.length],by simp[S4]⟩
      have e3:(E.idx (.var 5) (.var 3)).den ([AV.sl (l.map av), .fn g9 caps, .int .i64 k0, .int .i64 K.length, .int .i64 j, .sl (zs.map av)]++ [.bool false])=av zk:=by simp[AV.nth,Uc]
      refine Dq (λ_=>⟨.i64,K.length,zs.length,by simp,by omega,by simp,by omega,?_⟩) (Dq (λ_=>B2 _ _ _ e2) (Dq (λ_=>B2 _ _ zk ?_) (Dq (by simp[Cw]) (VF (hJ _ ⟨K++ [l[j]],zs.set K.length l[j],?_,by simp;omega,by simpa using T9,?_,?_,by rw[AN,qV];simp⟩)))))
      ·simp[AV.nth,Uc,(hs zk).1]
      ·exact(congrArg (λy=>AV.fld y 0 cn g) e3).trans (bX zk)
      ·have e4:(E.set (.var 5) (.var 3) (.put (.idx (.var 5) (.var 3)) 0 X g)).den ([AV.sl (l.map av), .fn g9 caps, .int .i64 k0, .int .i64 K.length, .int .i64 j, .sl (zs.map av)]++ [.bool false])= .sl ((zs.set K.length l[j]).map av):=by
        show AV.c6 _ _ (AV.c8 ((E.idx (.var 5) (.var 3)).den _) 0 (X.den _) g)=_;rw[e3,e2,Lo];simp[AV.c6,List.map_set]
       show EL.den _ (.cons (.bin .add (.var 3) (.int .i64 1)) (.cons (.set (.var 5) (.var 3) (.put (.idx (.var 5) (.var 3)) 0 X g)) .nil))=_;simp only[EL.den];have e5:(E.bin .add (.var 3) (.int .i64 1)).den ([AV.sl (l.map av), .fn g9 caps, .int .i64 k0, .int .i64 K.length, .int .i64 j, .sl (zs.map av)]++ [.bool false])= .int .i64 ((K++ [l[j]]).length:Int):=by simp[Cw,hwK]
       congr 1;congr 1
      ·rw[AO,Bk,List.take_add_one,List.take_set_of_le (AI _),Ua];simp[S4]
      ·rw[List.drop_set_of_lt (by omega)];have:=congrArg (List.drop 1) eJ;simpa[List.drop_drop]using this
  ·have hje:j=l.length:=by omega
   subst hje;refine F0 (t:=false) (by simp[Cw,T9]) (by simp) λ_=>oD ?_;have I5:r'=[]:=by rw[List.drop_eq_nil_of_le (AI _)]at CA;exact(by simpa[KM]using CA.symm)
   subst I5;rw[AN,AE];have T7:IntKind.i64.wrap ((zs.length:Int)-K.length)=zs.length-K.length:=CM (by omega) (by omega);have d3:(E.var 3).den ([AV.sl (l.map av),AV.fn g9 caps]++ [AV.int .i64 (k0:Int)]++ [AV.int .i64 (K.length:Int),AV.sl (zs.map av)])= .int .i64 K.length:=by simp
   have d4:(E.var 4).den ([AV.sl (l.map av),AV.fn g9 caps]++ [AV.int .i64 (k0:Int)]++ [AV.int .i64 (K.length:Int),AV.sl (zs.map av)])= .sl (zs.map av):=by simp
   have dm:(E.bin .sub (.len (.var 4)) (.var 3)).den ([AV.sl (l.map av),AV.fn g9 caps]++ [AV.int .i64 (k0:Int)]++ [AV.int .i64 (K.length:Int),AV.sl (zs.map av)])= .int .i64 ((zs.length:Int)-K.length):=by simp[Cw,T7]
   have IB:Cn.den ([AV.sl (l.map av),AV.fn g9 caps]++ [AV.int .i64 (k0:Int)]++ [AV.int .i64 (K.length:Int),AV.sl (zs.map av)]) (.win (.var 4) (.var 3) (.len (.var 4))):=⟨.i64,K.length, .i64,zs.length,zs.length,d3,by simp,by rw[d4];simp,by omega,by omega,by omega⟩
   have dapp:(E.app (.win (.var 4) (.int .i64 (0)) (.var 3)) (.rep (.bin .sub (.len (.var 4)) (.var 3)) z)).den ([AV.sl (l.map av),AV.fn g9 caps]++ [AV.int .i64 (k0:Int)]++ [AV.int .i64 (K.length:Int),AV.sl (zs.map av)])= .sl ((zs.map av).take K.length++List.replicate (zs.length-K.length) (z.den ([AV.sl (l.map av),AV.fn g9 caps]++ [AV.int .i64 (k0:Int)]++ [AV.int .i64 (K.length:Int),AV.sl (zs.map av)]))):=by show AV.app (AV.win ((E.var 4).den _) (.int .i64 0) ((E.var 3).den _)) (AV.rep ((E.bin .sub (.len (.var 4)) (.var 3)).den _) _)=_;rw[d3,d4,dm];simp only[AV.win,AV.rep,AV.app,Bw,Int.toNat_zero,List.drop_zero];congr 3;omega
   refine Dq (λ_=>IB) (Dq (λ_=>IB) (Dq (λ_=>λhu=>by have:=dm.symm.trans hu;simp at this) (Dq (λ_=>⟨.i64,0, .i64,K.length,zs.length,rfl,d3,?_,by omega,by omega,by omega⟩) (Kh ?_))))
   ·refine(congrArg AV.len dapp).trans ?_;simp only[AV.len,AO,Au,List.length_map,List.length_replicate];congr 1;omega
   ·refine(congrArg (λy=>AV.win y (.int .i64 0) (.int .i64 K.length)) dapp).trans ?_;simp only[AV.win,Bw,Int.toNat_zero,List.drop_zero];rw[List.take_append_of_le_length (by simp;omega),List.take_take,Nat.min_self,<-List.map_take,Ua]
abbrev RtS:Nat->List AV->AV->Prop:=Cl Tryz.prog B3
@[reducible] def Qh:Nat->Type
 |0=>Am
 |1=>Ax
 |2=>Bh
 |3=>BE
 |4=>Ai
 |5=>Aj
 |6=>AM
 |7=>Az
 |8=>Ea
 |9=>Bu
 |_+10=>Unit
@[reducible] def Xe:Nat->List Ty
 |0=> [.s, .s, .b]
 |1=> [.i .i64, .i .i64, .i .i64, .l .s, .l (.st 0)]
 |2=> [.i .i64, .b, .i .i64]
 |3=> [.i .i64, .s, .b]
 |4=> [.s, .l (.st 3)]
 |5=> [.i .i64, .l (.st 4), .l (.st 1), .l (.st 2)]
 |6=> [.i .i64, .l .s, .l (.st 0)]
 |7=> [.l .s, .l (.st 5), .l (.st 6)]
 |8=> [.i .i64, .i .i64, .i .i64, .i .i64]
 |9=> [.i .i64, .i .i64, .i .i64, .i .i64, .l .s, .l (.st 0), .b]
 |_+10=> []
def OI:∀n,Qh n->AV
 |0,x=>Sj x
 |1,x=>aK x
 |2,x=>aI x
 |3,x=>Ko x
 |4,x=>DJ x
 |5,x=>aD x
 |6,x=>aC x
 |7,x=>eU x
 |8,x=>mV x
 |9,x=>zGh x
 |_+10,_=> .agg []
def fR:∀n,Qh n->HL Qh (Xe n)
 |0,x=>(x.ah,x.bg,x.bf,())
 |1,x=>(x.al,x.af,x.bq,x.ak,x.ab,())
 |2,x=>(x.al,x.bk,x.af,())
 |3,x=>(x.af,x.bg,x.bf,())
 |4,x=>(x.ah,x.aw,())
 |5,x=>(x.aq,x.aj,x.ae,x.ao,())
 |6,x=>(x.al,x.ak,x.ab,())
 |7,x=>(x.az,x.ax,x.ar,())
 |8,x=>(x.bb,x.al,x.bm,x.af,())
 |9,x=>(x.bb,x.al,x.af,x.bq,x.ak,x.ab,x.bk,())
 |_+10,_=>()
def rI:∀n,HL Qh (Xe n)->Qh n
 |0,x=>⟨x.1,x.2.1,x.2.2.1⟩
 |1,x=>⟨x.1,x.2.1,x.2.2.1,x.2.2.2.1,x.2.2.2.2.1⟩
 |2,x=>⟨x.1,x.2.1,x.2.2.1⟩
 |3,x=>⟨x.1,x.2.1,x.2.2.1⟩
 |4,x=>⟨x.1,x.2.1⟩
 |5,x=>⟨x.1,x.2.1,x.2.2.1,x.2.2.2.1⟩
 |6,x=>⟨x.1,x.2.1,x.2.2.1⟩
 |7,x=>⟨x.1,x.2.1,x.2.2.1⟩
 |8,x=>⟨x.1,x.2.1,x.2.2.1,x.2.2.2.1⟩
 |9,x=>⟨x.1,x.2.1,x.2.2.1,x.2.2.2.1,x.2.2.2.2.1,x.2.2.2.2.2.1,x.2.2.2.2.2.2.1⟩
 |_+10,_=>()
theorem zE4:∀n x,OI n x= .agg (Ih OI (Xe n) (fR n x))
 |0,_=>rfl
 |1,_=>rfl
 |2,_=>rfl
 |3,_=>rfl
 |4,_=>rfl
 |5,_=>rfl
 |6,_=>rfl
 |7,_=>rfl
 |8,_=>rfl
 |9,_=>rfl
 |_+10,_=>rfl
theorem zDM:∀n h,fR n (rI n h)=h
 |0,_=>rfl
 |1,_=>rfl
 |2,_=>rfl
 |3,_=>rfl
 |4,_=>rfl
 |5,_=>rfl
 |6,_=>rfl
 |7,_=>rfl
 |8,_=>rfl
 |9,_=>rfl
 |_+10,_=>rfl
@[reducible] def C5:IW:=⟨RtS,Qh,OI,Xe,fR,rI,zE4,zDM⟩
abbrev FS:=FN C5
noncomputable def eQ(tb:List FS)(hs:List JM)(o:Option Tr)(ps:List PT)(r:RT)(xs:HP C5.car ps)(hp:IU C5 ps xs):Option (Il C5.car r):=match o with
 |some t=>CC tb 100000 (Qe r) t hs (W4 ps xs hp) [] []
 |none=>none
theorem zF4{f:Nat}{ps:List PT}{r:RT}{φ:HP C5.car ps->Option (Il C5.car r)}(tb:List FS)(hs:List JM)(h:∀xs hp,eQ tb hs (Ut Tryz.prog B3 f) ps r xs hp=φ xs)(hk:∀xs y,Xl Tryz.prog B3 f (F3 C5 ps xs) (GC C5 r y)=true)(xs:HP C5.car ps)(y:Il C5.car r)(hp:IU C5 ps xs)(e:φ xs=some y):C5.Rt f (F3 C5 ps xs) (GC C5 r y):=by
 rw[<-h xs hp]at e;unfold eQ at e;split at e
 ·rename_i t ht;refine G0 ht (hk xs y) ?_;unfold Den;rw[<-rS ps xs hp];exact E2 tb 100000 (fa:=[]) (λ_ h=>nomatch h) (λ_ h=>nomatch h) (λv hv=>oJ r hv) .nil e
 ·cases e
noncomputable def Ak(f:Nat)(ps:List PT)(r:RT)(φ:HP C5.car ps->Option (Il C5.car r))(tb:List FS)(hs:List JM)(h:∀xs hp,eQ tb hs (Ut Tryz.prog B3 f) ps r xs hp=φ xs:=by intro _ _;kernel_rfl)(hk:∀xs y,Xl Tryz.prog B3 f (F3 C5 ps xs) (GC C5 r y)=true:=by intro _ _;kernel_rfl):FS:=
 ⟨f,ps,r,φ,λxs y hp e=>zF4 tb hs h hk xs y hp e,false,λh=>by cases h⟩
noncomputable def HY(d:FS)(h:∀y,pA d.f (GC C5 d.r y)=true):FS:=
 ⟨d.f,d.ps,d.r,d.φ,d.ok,true,λ_ xs y hx e=>zzy (d.ok xs y hx e) (h y)⟩
noncomputable def Ey(f:Nat)(ps:List PT)(r:RT)(φ:HP C5.car ps->Option (Il C5.car r))(ok:∀xs y,IU C5 ps xs->φ xs=some y->C5.Rt f (F3 C5 ps xs) (GC C5 r y)):FS:=⟨f,ps,r,φ,ok,false,λh=>by cases h⟩
abbrev RM(s k:Int):Prop:=s*k<=140737488355328/\s<=140737488355328
noncomputable def Uq{α:Type}(f:α->Option α)(a0:List α)(v1:Int)(v2:List α):Option ((Int × List α) ⊕ Option (List α)):=
 if(decide (v1<(a0.length:Int)))then
  (An a0 v1).bind λy3=>
  (f y3).bind λv4=>
  (An v2 v1).bind λ_=>
  some (.inl ((IntKind.i64.wrap (v1+1)),(v2.set (v1).toNat v4)))
 else
  some (.inr (some v2))
noncomputable def toL{α:Type}(f:α->Option α)(d:α)(b:Int)(a0:List α):Option (List α):=
 AL (0<=(a0.length:Int)/\(a0.length:Int)*b<=140737488355328/\(a0.length:Int)<=140737488355328)<|
 Av (λs:Int × List α=>Uq f a0 s.1 s.2) (0,(List.replicate ((a0.length:Int)).toNat d))
noncomputable def Uv{α:Type}(f:α->α->Option Bool)(a0 a1:List α)(v1:Int):Option ((Int) ⊕ Option (Bool)):=
 if(decide (v1<(a0.length:Int)))then
  (An a0 v1).bind λy2=>
  (An a1 v1).bind λy3=>
  (f y2 y3).bind λv4=>
  if(!v4)then
   some (.inr (some false))
  else
   some (.inl (IntKind.i64.wrap (v1+1)))
 else
  some (.inr (some true))
noncomputable def K0{α:Type}(f:α->α->Option Bool)(a0 a1:List α):Option Bool:=
 if((a0.length:Int) !=(a1.length:Int))then
  some false
 else
  Av (λs:Int=>Uv f a0 a1 s) 0
noncomputable def Qo{α:Type}(f:α->Int->Option Int)(a0:List α)(v1 v2:Int):Option ((Int × Int) ⊕ Option (Int)):=
 if(decide (v2<(a0.length:Int)))then
  (An a0 v2).bind λy3=>
  (f y3 v1).bind λv4=>
  if(decide (v4<0))then
   some (.inr (some (-1)))
  else
   some (.inl (v4,(IntKind.i64.wrap (v2+1))))
 else
  some (.inr (some v1))
noncomputable def M0{α:Type}(f:α->Int->Option Int)(a0:List α)(a1:Int):Option (Int):=
 if(decide ((IntKind.i64.wrap (a1-(a0.length:Int)))<0))then
  some (-1)
 else
  Av (λs:Int × Int=>Qo f a0 s.1 s.2) ((IntKind.i64.wrap (a1-(a0.length:Int))),0)
end Go.Proofs.YtalagilebkaegaaGreat
end
section
namespace Go.Proofs.YtalagilebkaegaaGreat
open Go.RowKit
theorem DN.rd{P:Program}{w:World}{ts:List TypeId}{ms:List PM}{lo:List Bool}{vs:List Value}{xs:List AV}{rf lf hs:List Nat}(h:DN P w ts ms lo vs xs rf lf hs):lo=[]->(∀m∈ms,m= .ro)->Rd w vs xs rf/\hs=[]:=by
 induction h with
 |nil=>intro _ _;exact⟨.nil,rfl⟩
 |lent h1 _ _ _ _=>intro B0;subst B0;cases h1
 | @cons t ts ms lo v vs x xs f h rf lf hs Be _ ih=>
  intro B0 ER;subst B0;obtain⟨h1,rfl⟩:=ih rfl λm hm=>ER m (List.mem_of_mem_tail hm);have Lq:ms.headD .ro= .ro:=by
   cases ms with
   |nil=>rfl
   |cons m ms=>exact ER m (by simp)
  rw[Lq]at Be;obtain⟨h2,h3⟩:Rd w [v] [x] f/\h=[]:=Be;subst h3;exact⟨by simpa using h2.app h1,rfl⟩
 |free h1 _ ih=>intro B0 ER;subst B0;obtain⟨h2,rfl⟩:=ih rfl λm hm=>ER m (List.mem_of_mem_tail hm);exact⟨by simpa using h1.app h2,rfl⟩
theorem DL.il{P:Program}{w:World}:∀{ts:List TypeId} {ms:List PM} {vs:List Value},vs.length=ts.length->(∀m∈ms,m= .ro)->DL P w ts ms vs [] [] []
 | [],_,vs,_,_=> .nil
 |t::ts,ms,[],h,_=>by simp at h
 |t::ts,ms,v::vs,h,ER=>by
  refine .ro ?_ (DL.il (by simpa using h) λm hm=>ER m (List.mem_of_mem_tail hm));cases ms with
  |nil=>rfl
  |cons m ms=>exact ER m (by simp)
def fK(P:Program)(sg:BZ)(f np:Nat)(r:AV):Bool:=
 match P.funcs[f]?,sg f with
 |some fn,some s=>fn.body.isSome&& !(fn.name== "runtime.NumGoroutine")&&Ns P fn s r&&s.bz.all (λm=>match m with| .ro=>true|_=>false)&&fn.params.size==np&&fn.nfree==0&&(s.ft.isEmpty&&s.lo.isEmpty)&&(match(Dv fn s)with| [t]=> !F4 P t s.res|_=>false)
 |_,_=>false
theorem zBW{f:Nat}{xs:List AV}{r:AV}(hk:fK Tryz.prog B3 f xs.length r=true)(hc:∀(w:World) (vs:List Value) (rf:List Nat),Lx.K w->Rd w vs xs rf->Calls Tryz.prog f vs.toArray w λe w'=>Mod [] w w'/\ ∃v f1,e= .returned v/\Rd w' [v] [r] f1/\ ∀b∈f1,b∈rf\/w.heap.size<=b):Cl Tryz.prog B3 f xs r:=by
 unfold fK at hk;split at hk
 ·rename_i fn s hf hs;simp only[Ab,Bf,AK,Bj]at hk;obtain⟨⟨⟨⟨⟨⟨⟨h1,h2⟩,h3⟩,h4⟩,h5⟩,h6⟩,Cz⟩,h7⟩:=hk;obtain⟨Cz,B0⟩:s.ft=[]/\s.lo=[]:=by simpa using Cz
  have Lq:∀m∈s.bz,m= .ro:=λm hm=>by
   have:=h4 m hm;split at this
   ·rfl
   ·cases this
  unfold Cl;rw[if_pos (KQ f s hs)];refine⟨s,hs,fn,hf,h1,h2,h3,by omega,by simp[Cz],λw vs rf lf A4 Ah hd _ B7 D1=> ?_⟩;obtain⟨hr,rfl⟩:=Ah.rd B0 Lq;refine(hc w vs rf D1.2.1 hr).mono ?_;rintro e w' ⟨hm,v,f1,rfl,hv,hb⟩;refine⟨v,rfl,⟨⟨r,[],f1,[],[],[],rfl,?_,DL.il ?_ Lq,by simp,by simp,λb Cc=>⟨by simp,?_⟩⟩,hm⟩⟩
  ·unfold KB;split at h7
   ·rename_i t ht;rw[ht];show D6 Tryz.prog w' t s.res v r f1 [];unfold D6;rw[if_neg (by rw[Bool.not_eq_true];simpa using h7)];exact⟨hv,rfl⟩
   ·cases h7
  ·rw[hr.len];simp[Cz];omega
  ·rcases hb b (by simpa using Cc)with h|h
   ·exact .inl h
   ·exact .inr (.inr h)
 ·cases hk
theorem zDC{f:Nat}{xs:List AV}{r:AV}(hk:fK Tryz.prog B3 f xs.length r=true)(hc:∀(w:World) (vs:List Value) (rf:List Nat),Rd w vs xs rf->Calls Tryz.prog f vs.toArray w λe w'=>Mod [] w w'/\ ∃v f1,e= .returned v/\Rd w' [v] [r] f1/\ ∀b∈f1,b∈rf\/w.heap.size<=b):Cl Tryz.prog B3 f xs r:=
 zBW hk λw vs rf _ hr=>hc w vs rf hr
theorem eR{w:World}{s:List UInt8}{vs:List Value}{xs:List AV}{f:List Nat}(h:Rd w vs (.str s::xs) f):∃(b:ByteArray) (us:List Value),vs= .string b::us/\b.data.toList=s/\b.size<=9223372036854775807/\Rd w us xs f:=by
 cases h with
 |str a h=>exact⟨_,_,rfl,rfl,a,h⟩
theorem Sy{w:World}{k:IntKind}{n:Int}{vs:List Value}{xs:List AV}{f:List Nat}(h:Rd w vs (.int k n::xs) f):∃us:List Value,vs= .int k n::us/\E3 k n/\Rd w us xs f:=by
 cases h with
 |int a h=>exact⟨_,rfl,a,h⟩
theorem Pt{w:World}{vs:List Value}{f:List Nat}(h:Rd w vs [] f):vs=[]/\f=[]:=by cases h;exact⟨rfl,rfl⟩
end Go.Proofs.YtalagilebkaegaaGreat
end
section
namespace Go.Proofs
open Go.Shelf
def Tryz.j8:Go.Shelf.Ren:=⟨λ|137=>272|217=>302|266=>318|n=>n,λ|9=>9|5=>5|3=>3|n=>n,λ|n=>n⟩
def Tryz.fu:Go.Shelf.Ren:=⟨λ|217=>302|266=>318|n=>n,λ|9=>9|5=>5|3=>3|n=>n,λ|n=>n⟩
theorem Tryz.jo:Go.Proofs.Lays.n217 Tryz.prog Tryz.fu:={
 mixed:=by kernel_rfl
 f217:=Tryz.func302.trans (congrArg some (by kernel_rfl))
 f266:=Tryz.func318.trans (congrArg some (by kernel_rfl))
 t3:=Tryz.underlying3
 a3:=Tryz.isAgg3
 z3:=Tryz.sizeOf3
 v3:=Tryz.zeroValue3
 t5:=Tryz.underlying5
 a5:=Tryz.isAgg5
 z5:=Tryz.sizeOf5
 v5:=Tryz.zeroValue5
 t9:=Tryz.underlying9
 a9:=Tryz.isAgg9
 z9:=Tryz.sizeOf9
 v9:=Tryz.zeroValue9}
open Go.RowKit Go.Lib in
theorem Tryz.stringslite_IndexByte(s:ByteArray)(c:Int)(w:World):
  Calls Tryz.prog 302 #[.string s, .int .u8 c] w λe w'=>e= .returned (.int .i64 (Lib.indexByte s.data.toList c.toNat.toUInt8))/\w'=w:=Any.stringslite_IndexByte Tryz.jo s c w
def Tryz.gh:Go.Shelf.Ren:=⟨λ|190=>228|125=>270|258=>269|128=>300|129=>301|302=>291|303=>292|304=>293|305=>294|306=>295|307=>296|308=>297|309=>298|310=>299|333=>313|329=>314|330=>315|334=>316|335=>317|336=>278|344=>323|n=>n,λ|31=>24|9=>9|3=>3|46=>215|0=>0|51=>301|53=>75|4=>4|183=>295|182=>294|131=>100|5=>5|218=>311|222=>315|228=>319|229=>320|n=>n,λ|n=>n⟩
theorem Tryz.gz:Go.Proofs.Lays.n190 Tryz.prog Tryz.gh:={
 mixed:=by kernel_rfl
 f125:=Tryz.func270.trans (congrArg some (by kernel_rfl))
 f128:=Tryz.func300.trans (congrArg some (by kernel_rfl))
 f129:=Tryz.func301.trans (congrArg some (by kernel_rfl))
 f190:=Tryz.func228.trans (congrArg some (by kernel_rfl))
 f258:=Tryz.func269.trans (congrArg some (by kernel_rfl))
 f302:=Tryz.func291.trans (congrArg some (by kernel_rfl))
 f303:=Tryz.func292.trans (congrArg some (by kernel_rfl))
 f304:=Tryz.func293.trans (congrArg some (by kernel_rfl))
 f305:=Tryz.func294.trans (congrArg some (by kernel_rfl))
 f306:=Tryz.func295.trans (congrArg some (by kernel_rfl))
 f307:=Tryz.func296.trans (congrArg some (by kernel_rfl))
 f308:=Tryz.func297.trans (congrArg some (by kernel_rfl))
 f309:=Tryz.func298.trans (congrArg some (by kernel_rfl))
 f310:=Tryz.func299.trans (congrArg some (by kernel_rfl))
 f329:=Tryz.func314.trans (congrArg some (by kernel_rfl))
 f330:=Tryz.func315.trans (congrArg some (by kernel_rfl))
 f333:=Tryz.func313.trans (congrArg some (by kernel_rfl))
 f334:=Tryz.func316.trans (congrArg some (by kernel_rfl))
 f335:=Tryz.func317.trans (congrArg some (by kernel_rfl))
 f336:=Tryz.func278.trans (congrArg some (by kernel_rfl))
 f344:=Tryz.func323.trans (congrArg some (by kernel_rfl))
 t0:=Tryz.underlying0
 a0:=Tryz.isAgg0
 z0:=Tryz.sizeOf0
 v0:=Tryz.zeroValue0
 t3:=Tryz.underlying3
 a3:=Tryz.isAgg3
 z3:=Tryz.sizeOf3
 v3:=Tryz.zeroValue3
 t4:=Tryz.underlying4
 a4:=Tryz.isAgg4
 z4:=Tryz.sizeOf4
 v4:=Tryz.zeroValue4
 t5:=Tryz.underlying5
 a5:=Tryz.isAgg5
 z5:=Tryz.sizeOf5
 v5:=Tryz.zeroValue5
 t9:=Tryz.underlying9
 a9:=Tryz.isAgg9
 z9:=Tryz.sizeOf9
 v9:=Tryz.zeroValue9
 t31:=Tryz.underlying24
 a31:=Tryz.isAgg24
 z31:=Tryz.sizeOf24
 v31:=Tryz.zeroValue24
 t46:=Tryz.underlying215
 a46:=Tryz.isAgg215
 z46:=Tryz.sizeOf215
 v46:=Tryz.zeroValue215
 t51:=Tryz.underlying301
 a51:=Tryz.isAgg301
 z51:=Tryz.sizeOf301
 v51:=Tryz.zeroValue301
 t53:=Tryz.underlying75
 a53:=Tryz.isAgg75
 z53:=Tryz.sizeOf75
 v53:=Tryz.zeroValue75
 t131:=Tryz.underlying100
 a131:=Tryz.isAgg100
 z131:=Tryz.sizeOf100
 v131:=Tryz.zeroValue100
 t182:=Tryz.underlying294
 a182:=Tryz.isAgg294
 z182:=Tryz.sizeOf294
 v182:=Tryz.zeroValue294
 t183:=Tryz.underlying295
 a183:=Tryz.isAgg295
 z183:=Tryz.sizeOf295
 v183:=Tryz.zeroValue295
 t218:=Tryz.underlying311
 a218:=Tryz.isAgg311
 z218:=Tryz.sizeOf311
 v218:=Tryz.zeroValue311
 t222:=Tryz.underlying315
 a222:=Tryz.isAgg315
 z222:=Tryz.sizeOf315
 v222:=Tryz.zeroValue315
 t228:=Tryz.underlying319
 a228:=Tryz.isAgg319
 z228:=Tryz.sizeOf319
 v228:=Tryz.zeroValue319
 t229:=Tryz.underlying320
 a229:=Tryz.isAgg320
 z229:=Tryz.sizeOf320
 v229:=Tryz.zeroValue320}
open Go.Sort Go.RowKit in
theorem Tryz.slices_Sort_string(blk off cap:Nat)(ss:List (List UInt8))(w:World)(hH:Holds encStr w blk off ss.toArray)(Lc:blk<w.heap.size)(By:ss.length<4611686018427387904):
  Calls Tryz.prog 228 #[.slice (some ⟨blk,off,none⟩) ss.length cap] w λe w'=>
   e= .returned (.tuple #[])/\ ∃n os,w'=grow (putRow encStr (Sort.ahead w n) blk off (ss.mergeSort λx y=>decide (x<=y)).toArray) os:=Any.slices_Sort_string Tryz.gz blk off cap ss w hH Lc By
def Tryz.ey:Go.Shelf.Ren:=⟨λ|20=>172|n=>n,λ|22=>89|3=>3|4=>4|0=>0|n=>n,λ|n=>n⟩
theorem Tryz.ez:Go.Proofs.Lays2.n20 Tryz.prog Tryz.ey:={
 mixed:=by kernel_rfl
 f20:=Tryz.func172.trans (congrArg some (by kernel_rfl))
 t0:=Tryz.underlying0
 a0:=Tryz.isAgg0
 z0:=Tryz.sizeOf0
 v0:=Tryz.zeroValue0
 t3:=Tryz.underlying3
 a3:=Tryz.isAgg3
 z3:=Tryz.sizeOf3
 v3:=Tryz.zeroValue3
 t4:=Tryz.underlying4
 a4:=Tryz.isAgg4
 z4:=Tryz.sizeOf4
 v4:=Tryz.zeroValue4
 t22:=Tryz.underlying89
 a22:=Tryz.isAgg89
 z22:=Tryz.sizeOf89
 v22:=Tryz.zeroValue89
 i3:=by kernel_rfl}
open Go.RowKit Go.Lib Go.Sort in
theorem Tryz.slices_Compact_int(blk off cap:Nat)(zs:List Int)(w:World)(hH:Holds (Value.int .i64) w blk off zs.toArray)(By:zs.length<=9223372036854775807)(Fi:zs.length<=cap):
  Calls Tryz.prog 172 #[.slice (some ⟨blk,off,none⟩) zs.length cap] w λe w'=>e= .returned (.slice (some ⟨blk,off,none⟩) (Lib.compact zs).length cap)/\ ∃q,w'=putRow (Value.int .i64) (Sort.ahead w q) blk off (Lib.compact zs++List.replicate (zs.length-(Lib.compact zs).length) 0).toArray:=Any.slices_Compact_int Tryz.ez blk off cap zs w hH By Fi
open Go.RowKit Go.Lib Go.Sort in
theorem Tryz.slices_Compact_int_empty(a:Option Addr)(cap:Nat)(w:World):
  Calls Tryz.prog 172 #[.slice a 0 cap] w λe w'=>e= .returned (.slice a 0 cap)/\w'=w:=Any.slices_Compact_int_empty Tryz.ez a cap w
def Tryz.gb:Go.Shelf.Ren:=⟨λ|194=>229|n=>n,λ|31=>24|9=>9|3=>3|4=>4|0=>0|n=>n,λ|n=>n⟩
theorem Tryz.ia:Go.Proofs.Lays.n194 Tryz.prog Tryz.gb:={
 mixed:=by kernel_rfl
 f194:=Tryz.func229.trans (congrArg some (by kernel_rfl))
 t0:=Tryz.underlying0
 a0:=Tryz.isAgg0
 z0:=Tryz.sizeOf0
 v0:=Tryz.zeroValue0
 t3:=Tryz.underlying3
 a3:=Tryz.isAgg3
 z3:=Tryz.sizeOf3
 v3:=Tryz.zeroValue3
 t4:=Tryz.underlying4
 a4:=Tryz.isAgg4
 z4:=Tryz.sizeOf4
 v4:=Tryz.zeroValue4
 t9:=Tryz.underlying9
 a9:=Tryz.isAgg9
 z9:=Tryz.sizeOf9
 v9:=Tryz.zeroValue9
 t31:=Tryz.underlying24
 a31:=Tryz.isAgg24
 z31:=Tryz.sizeOf24
 v31:=Tryz.zeroValue24}
open Go.RowKit Go.Lib Go.Sort in
theorem Tryz.slices_Compact_string(blk off cap:Nat)(zs:List (List UInt8))(w:World)(hH:Holds encStr w blk off zs.toArray)(By:zs.length<=9223372036854775807)(Fi:zs.length<=cap):
  Calls Tryz.prog 229 #[.slice (some ⟨blk,off,none⟩) zs.length cap] w λe w'=>e= .returned (.slice (some ⟨blk,off,none⟩) (Lib.compact zs).length cap)/\ ∃q,w'=putRow encStr (Sort.ahead w q) blk off (Lib.compact zs++List.replicate (zs.length-(Lib.compact zs).length) []).toArray:=Any.slices_Compact_string Tryz.ia blk off cap zs w hH By Fi
open Go.RowKit Go.Lib Go.Sort in
theorem Tryz.slices_Compact_string_empty(a:Option Addr)(cap:Nat)(w:World):
  Calls Tryz.prog 229 #[.slice a 0 cap] w λe w'=>e= .returned (.slice a 0 cap)/\w'=w:=Any.slices_Compact_string_empty Tryz.ia a cap w
open Go.RowKit Go.Sort in
theorem Tryz.slices_Sort_string_none(p:Option Addr)(cap:Nat)(w:World):
  Calls Tryz.prog 228 #[.slice p 0 cap] w λe w'=>e= .returned (.tuple #[])/\w'=w:=Any.slices_Sort_string_none Tryz.gz p cap w
end Go.Proofs
end
section
namespace Go.Proofs.YtalagilebkaegaaGreat
open Go.RowKit
set_option maxRecDepth 100000
theorem u4:∀(l:List UInt8) (c:UInt8), -1<=Lib.indexByte l c/\Lib.indexByte l c<l.length\/Lib.indexByte l c= -1
 | [],_=> .inr rfl
 |b::l,c=>by
  unfold Lib.indexByte;rcases u4 l c with h|h
  ·split
   ·left;simp
   ·split
    ·exact .inr rfl
    ·left;rw[A6];omega
  ·rw[h];split
   ·left;simp
   ·right;rfl
theorem zCj{n:Int}(h1: -9223372036854775808<=n)(h2:n<=9223372036854775807):E3 .i64 n:=CM h1 h2
def Xw(s:List UInt8)(c:Int):Option Int:=some (Lib.indexByte s c.toNat.toUInt8)
theorem zhe(a0:List UInt8)(a1 r:Int)(h:Xw a0 a1=some r):Cl Tryz.prog B3 302 [.str a0, .int .u8 a1] (.int .i64 r):=zDC (by kernel_rfl) λw vs rf hr=>by
 obtain⟨b,us,rfl,rfl,hb,hr⟩:=eR hr;obtain⟨us1,rfl,_,hr⟩:=Sy hr;obtain⟨rfl,rfl⟩:=Pt hr;refine(Tryz.stringslite_IndexByte b a1 w).mono ?_;rintro e w' ⟨rfl,rfl⟩;cases h;have hl:b.data.toList.length<=9223372036854775807:=by rw[BC];exact hb
 exact⟨Mod.refl [] _,_,[],rfl, .int (by rcases u4 b.data.toList a1.toNat.toUInt8 with h|h<;>exact zCj (by omega) (by omega)) .nil,by simp⟩
theorem YS{P:Program}(w:World)(dT sT ty elem:TypeId)(k:Nat)(g o dLen dCap:Nat)(a:Addr)(sLen sCap:Nat)(cur:Array Value)(t:TypeId)(cs:List Value)
  (hu:P.underlying dT=some (.slice elem)) (hs:(P.info? elem).map (·.size)=some k)
  (hg:w.heap[g]?=some (.cells cur t (0,0))) (hn:cs.length=Nat.min sLen dLen*k)
  (Dd:∀j v,cs[j]?=some v->w.cell? (a.add j)=some v) (EI:o+cs.length<=cur.size) (h1:∀v∈cs,v.oneCell'=true):
  (Builtin.copy_ #[dT,sT] ty #[.slice (some ⟨g,o,none⟩) dLen dCap, .slice (some a) sLen sCap]).run P w=
   .ok (goInt (Nat.min sLen dLen)) (w.setRow g (cur.toList.take o++cs++cur.toList.drop (o+cs.length)).toArray):=by
 have hl:=run_loadCells_list (P:=P) w a cs Dd;have Em:=run_storeCells_at P g o t cs 0 cur w hg (by simpa using EI) h1;cases hq:P.info? elem with
 |none=>simp[hq]at hs
 |some i=>
  have hi:i.size=k:=by simpa[hq]using hs
  rw[hn]at hl;simp[Builtin.copy_,run_underlying hu,Builtin.lenOf,Builtin.firstCells,sizeOf,typeInfo,hq,hi,hl,Em]
theorem kJ{P:Program}(w:World){ops:Array Oper}{rest:List Oper}{o:Oper}{a:Act}{Q:Exit->Act->World->Prop}(P2:o.guard=none)(d s:Operand)(t t':TypeId)
  (ho:o.op= .call {callee:= .builtin .copy,args:= #[d,s],argTypes:= #[t,t']}) (v u:Value) (hd:a.eval d=v) (hs:a.eval s=u) {v':Value} {w':World}
  (hr:(Builtin.copy_ #[t,t'] o.type #[v,u]).run P w= .ok v' w') (h:wpList P ops Q rest (a.put o.dst v') w'):wpList P ops Q (o::rest) a w:=
 wpList_plain P2 λ_ hK=>by unfold Oper.wp execOp;simp only[ho,resolve,invoke,builtin,Sem.run_bind,Sem.run_pure,Result.andThen_ok,List.map_toArray,List.map_cons,List.map_nil,hd,hs,hr];exact hK _ _ h
theorem wC{P:Program}{ops:Array Oper}{o:Oper}{a:Act}{w:World}{K:Act->World->Prop}{Q:Exit->Act->World->Prop}{E:Prop}
  (hg:o.guard=none) (d x:Operand) (dT sT:TypeId) (AT:o.op=Op.call {callee:=Callee.builtin Builtin.copy,args:= #[d,x],argTypes:= #[dT,sT]})
  (v u:Value) (hd:a.eval d=v) (hx:a.eval x=u) {v':Value} {w':World} (hr:(Builtin.copy_ #[dT,sT] o.type #[v,u]).run P w= .ok v' w') (hK:K (a.put o.dst v') w'):
  if Region.wanted o (yielded ops a.tmps)=true then Oper.wp P o a w K Q else E:=by
 have hw:Region.wanted o (yielded ops a.tmps)=true:=by simp[Region.wanted,hg]
 rw[if_pos hw];unfold Oper.wp;simp[execOp,AT,resolve,invoke,builtin,hd,hx,hr,Result.andThen];exact hK
def Dk(w:World)(el:TypeId)(k:Nat)(g cap:Nat)(C:Array Value)(n:Nat)(cs:List Value):Prop:=
 n<=cap/\cap<=maxLen/\w.heap[g]?=some (.cells C el (0,0))/\C.size=cap*k/\cs=C.toList.take (n*k)
def OL(w w':World)(el:TypeId)(k:Nat)(own:List Nat)(v:Value)(n:Nat)(cs:List Value):Prop:=
 ∃g cap C,v= .slice (some ⟨g,0,none⟩) n cap/\Dk w' el k g cap C n cs/\Mod own w w'/\(g∈own\/w.heap.size<=g)
def NI(P:Program)(f:Nat)(el:TypeId)(k:Nat):Prop:=
 ∀(w:World) (v:Value) (n i:Nat) (cs:List Value) (own:List Nat) (vb vc m:Nat) (VC:Array Value) (vs:List Value),cs.length=n*k->
  ((n=0/\ ∃q,v= .slice q 0 0)\/ ∃g cap C,v= .slice (some ⟨g,0,none⟩) n cap/\Dk w el k g cap C n cs/\g∈own)->i<=n->Dk w el k vb vc VC m vs->(∀g∈own,vb≠g)->0<m->(n+m)*1000<=140737488355328->
  (∀u∈vs,u.oneCell'=true)->(∀u∈cs,u.oneCell'=true)->
  Calls P f #[v, .int .i64 i, .slice (some ⟨vb,0,none⟩) m vc] w λe w'=> ∃u,e= .returned u/\OL w w' el k own u (n+m) (cs.take (i*k)++vs++cs.drop (i*k))
theorem Dk.cell{w:World}{el:TypeId}{k g cap:Nat}{C:Array Value}{n:Nat}{cs:List Value}(h:Dk w el k g cap C n cs)(off j:Nat)(v:Value)(hj:(cs.drop off)[j]?=some v):w.cell? ((⟨g,off,none⟩:Addr).add j)=some v:=by
 obtain⟨_,_,h3,_,h5⟩:=h;rw[Addr.add_lit,EA h3];rw[List.getElem?_drop,h5,List.getElem?_take]at hj;split at hj
 ·simpa using hj
 ·cases hj
theorem Dk.len{w:World}{el:TypeId}{k g cap:Nat}{C:Array Value}{n:Nat}{cs:List Value}(h:Dk w el k g cap C n cs):cs.length=n*k:=by obtain⟨h1,_,_,h4,h5⟩:=h;have:=Bq k h1;rw[h5,Au,BC];omega
theorem zGe{α:Type}(cur cs vs:List α)(i m n:Nat)(hc:cs=cur.take n)(hi:i<=n)(hv:vs.length=m)(hn:n+m<=cur.length):
  let c1:=cur.take (i+m)++cs.drop i++cur.drop (i+m+(cs.drop i).length)
  (c1.take i++vs++c1.drop (i+vs.length)).take (n+m)=cs.take i++vs++cs.drop i:=by
 have Aw:cs.length=n:=by rw[hc,Au];omega
 have hd:(cs.drop i).length=n-i:=by rw[BD,Aw]
 intro c1;have e1:c1.take i=cs.take i:=by show(cur.take (i+m)++cs.drop i++_).take i=_;rw[List.append_assoc,List.take_append_of_le_length (by rw[Au];omega),List.take_take,hc,List.take_take];congr 1;omega
 have e2:c1.drop (i+vs.length)=cs.drop i++cur.drop (i+m+(cs.drop i).length):=by show(cur.take (i+m)++cs.drop i++_).drop _=_;rw[List.append_assoc,List.drop_append_of_le_length (by rw[Au,hv];omega),List.drop_eq_nil_of_le (by rw[Au,hv];omega),List.nil_append]
 rw[e1,e2];have l1:(cs.take i++vs++cs.drop i).length=n+m:=by simp only[AO,Au,hv,hd,Aw];omega
 rw[<-List.append_assoc,<-l1,List.take_left]
theorem two{α:Type}(zs cs vs:List α)(i m n:Nat)(cur:List α)(bR:cur=cs.take i++zs)(Aw:cs.length=n)(hi:i<=n)(hv:vs.length=m)(hz:n+m-i<=zs.length):
  let c1:=cur.take i++vs++cur.drop (i+vs.length)
  (c1.take (i+m)++cs.drop i++c1.drop (i+m+(cs.drop i).length)).take (n+m)=cs.take i++vs++cs.drop i:=by
 have ht:(cs.take i).length=i:=by rw[Au];omega
 intro c1;have e1:c1=cs.take i++vs++cur.drop (i+vs.length):=by show cur.take i++vs++cur.drop (i+vs.length)=_;rw[bR];congr 2;rw[List.take_append_of_le_length (by omega),List.take_take,Nat.min_self]
 have e2:c1.take (i+m)=cs.take i++vs:=by
  have l2:(cs.take i++vs).length=i+m:=by rw[AO,ht,hv]
  rw[e1,<-l2,List.take_left]
 rw[e2];have l1:(cs.take i++vs++cs.drop i).length=n+m:=by simp only[AO,ht,hv,BD,Aw];omega
 rw[<-l1,List.take_left]
theorem R6(xs ys:List AV):Aq (xs++ys)=Aq xs++Aq ys:=by simp[Aq]
theorem R0{K:Nat}{xs:List AV}(h:∀y∈xs,y.cells.length=K){i:Nat}(hi:i<=xs.length):Aq (xs.take i)=(Aq xs).take (i*K)/\Aq (xs.drop i)=(Aq xs).drop (i*K):=by
 have l1:(Aq (xs.take i)).length=i*K:=by rw[KI _ λy hy=>h y (Br hy),Au,Nat.min_eq_left hi]
 have e:Aq xs=Aq (xs.take i)++Aq (xs.drop i):=by rw[<-R6,B8]
 rw[e,<-l1,List.take_left,List.drop_left];exact⟨rfl,rfl⟩
theorem CZ.jm{w:World}{el K:Nat}{v:Value}{x:AV}{top:List Nat}(h:CZ w el K v x top []):∃xs cs,x= .sl xs/\0<K/\(∀y∈xs,y.cells.length=K)/\cs.length=xs.length*K/\Rd w cs (Aq xs) []/\(∀u∈cs,u.oneCell'=true)/\
  ((xs=[]/\top=[]/\ ∃q,v= .slice q 0 0)\/ ∃g cap C,v= .slice (some ⟨g,0,none⟩) xs.length cap/\Dk w el K g cap C xs.length cs/\top=[g]):=by
 obtain⟨xs,rfl,h2,h3,⟨rfl,⟨a,hv⟩,rfl,_⟩|⟨g,cap,C,rfl,h6,h7,h8,h9,rfl,Fh,EE⟩⟩:=h
 ·exact⟨[],[],rfl,h3,h2,by simp,by simpa[Aq]using Rd.nil,by simp, .inl ⟨rfl,rfl,a,hv⟩⟩
 ·exact⟨xs,_,rfl,h3,h2,(Dk.len ⟨h6,h7,h8,h9,rfl⟩),EE,Fh, .inr ⟨g,cap,C,rfl,⟨h6,h7,h8,h9,rfl⟩,rfl⟩⟩
theorem Zz{P:Program}{w:World}{t el:TypeId}{v:Value}{x:AV}{rf hs:List Nat}(ha:Ao P t=false)(hl:A8 P t=[t])(he:CR P t=some el)(hf:Ca P el=true)(h:NL P w t [true] v x rf hs):rf=[]/\CZ w el (P.cellsOf el) v x hs []:=by
 obtain⟨us,ys,h1,h2⟩:=h;rw[ha]at h1;simp only[AW,if_false]at h1;obtain⟨rfl,rfl⟩:=h1;rw[hl]at h2;cases h2 with
 |own q1 q2 q3 q4 q5=>
  cases q5;rw[he]at q2;cases q2;rcases q3 with⟨_,rfl⟩|⟨h,_⟩
  ·exact⟨rfl,by simpa using q4⟩
  ·rw[hf]at h;cases h
 |deep q1 q2 q3=>rw[he]at q2;cases q2;rw[hf]at q3;cases q3
 |rd q1=>have:=q1 rfl;rw[he]at this;cases this
def fP(P:Program)(sg:BZ)(f:Nat)(t it el K:Nat):Bool:=
 match P.funcs[f]?,sg f with
 |some fn,some s=>(match s.bz,s.res,s.ft,s.lo with
  | [.va [true], .ro, .va [true]],[true],[],[]=>true
  |_,_,_,_=>false)&&fn.body.isSome&& !(fn.name== "runtime.NumGoroutine")&&fn.params.toList==[t,it,t]&&(Dv fn s)==[t]&&fn.nfree==0&& !Ao P t&&A8 P t==[t]&&CR P t==some el&&Ca P el&&P.cellsOf el==K&&F4 P t [true]&&fn.params.size==3
 |_,_=>false
def IT(P:Program)(sg:BZ)(f:Nat)(r:List AV):Bool:=match P.funcs[f]?,sg f with
 |some fn,some s=>Ns P fn s (.sl r)
 |_,_=>false
theorem zEC{f t it el K:Nat}(hk:fP Tryz.prog B3 f t it el K=true)(B5:∀r,IT Tryz.prog B3 f r=true)(Fk:NI Tryz.prog f el K)(xs ys:List AV)(i:Int)(h0:0<=i)(h1:i<=xs.length)(hy:ys≠ [])(hb:(xs.length+ys.length)*1000<=140737488355328):
  Cl Tryz.prog B3 f [.sl xs, .int .i64 i, .sl ys] (.sl (xs.take i.toNat++ys++xs.drop i.toNat)):=by
 unfold fP at hk;split at hk
 ·rename_i fn s hf hs;simp only[Ab,Bf,AK]at hk;obtain⟨⟨⟨⟨⟨⟨⟨⟨⟨⟨⟨⟨g1,g2⟩,g3⟩,g4⟩,g5⟩,g6⟩,g7⟩,g8⟩,g9⟩,g10⟩,g11⟩,g12⟩,g13⟩:=hk;obtain⟨hm,hr,Cz,B0⟩:s.bz=[.va [true], .ro, .va [true]]/\s.res=[true]/\s.ft=[]/\s.lo=[]:=by
   split at g1
   ·rename_i a b c d;exact⟨a,b,c,d⟩
   ·cases g1
  unfold Cl;rw[if_pos (KQ f s hs)];refine⟨s,hs,fn,hf,g2,g3,by have:=B5 (xs.take i.toNat++ys++xs.drop i.toNat);unfold IT at this;rw[hf,hs]at this;exact this,by simp[g6,g13],by simp[Cz],λw vs rf lf A4 Ah hd _ B7 D1=> ?_⟩;rw[g4,Cz,AE,hm,B0]at Ah;cases Ah with
  |lent h _ _ _=>cases h
  | @cons _ _ _ _ v1 vs1 _ _ f1 k1 rf1 lf1 BM a1 Ah=>
   cases Ah with
   |lent h _ _ _=>cases h
   | @cons _ _ _ _ v2 vs2 _ _ f2 k2 rf2 lf2 A7 a2 Ah=>
    cases Ah with
    |lent h _ _ _=>cases h
    | @cons _ _ _ _ v3 vs3 _ _ f3 k3 rf3 lf3 Hk a3 Ah=>
     cases Ah;obtain⟨rfl,r1⟩:=Zz g7 g8 g9 g10 a1;obtain⟨rfl,r3⟩:=Zz g7 g8 g9 g10 a3;obtain⟨a2,rfl⟩:Rd w [v2] [AV.int .i64 i] f2/\k2=[]:=a2;obtain⟨us,rfl2,hI,a2⟩:=Sy a2;obtain⟨rfl,rfl⟩:=Pt a2;cases rfl2;obtain⟨xs',cs,e1,p0,p1,p2,p3,p4,p5⟩:=r1.jm;cases e1;obtain⟨ys',cv,e2,_,q1,q2,q3,q4,q5⟩:=r3.jm;cases e2;rw[g11]at p0 p1 p2 p5 q1 q2 q5;obtain⟨vb,vc,VC,rfl,hv,rfl⟩:∃g cap C,v3= .slice (some ⟨g,0,none⟩) ys.length cap/\Dk w el K g cap C ys.length cv/\k3=[g]:=by
      rcases q5 with⟨h,_⟩|h
      ·exact absurd h hy
      ·exact h
     have hnd':k1++ [vb]=k1++([]++([vb]++ [])):=by simp
     have IY:∀g∈k1,vb≠g:=by intro g hg e;subst e;have:=(List.nodup_append.1 B7).2.2 vb hg vb (by simp);exact this rfl
     have eK:0<ys.length:=by cases ys with|nil=>exact absurd rfl hy|cons=>simp
     have hc:=Fk w v1 xs.length i.toNat cs k1 vb vc ys.length VC cv p2 (by
      rcases p5 with⟨rfl,_,q,rfl⟩|⟨g,cap,C,rfl,h,rfl⟩
      ·exact .inl ⟨rfl,q,rfl⟩
      ·exact .inr ⟨g,cap,C,rfl,h,by simp⟩) (by omega) hv IY eK hb q4 p4
     rw[show((i.toNat:Nat):Int)=i by omega]at hc;refine hc.mono ?_;rintro e w' ⟨u,rfl,g,cap,C,rfl,⟨z1,z2,z3,z4,z5⟩,Bp,EM⟩;have I0:∀{us:List Value} {zs:List AV},Rd w us zs []->Rd w' us zs []:=λh=>h.frame (by simp);have cut:∀o n,Rd w ((cs.drop o).take n) (((Aq xs).drop o).take n) []:=λo n=>by
      obtain⟨gg,k1,k2⟩:=p3.piece o n;have:gg=[]:=List.eq_nil_iff_forall_not_mem.2 λb hb=>by simpa using k1 b hb
      rw[this]at k2;exact k2
     obtain⟨t1,t2⟩:=R0 p1 (i:=i.toNat) (by omega);have hmul:=Bq K (show i.toNat<=xs.length by omega);have Da:Rd w' (cs.take (i.toNat*K)++cv++cs.drop (i.toNat*K)) (Aq (xs.take i.toNat++ys++xs.drop i.toNat)) []:=by rw[R6,R6,t1,t2];have c1:=cut 0 (i.toNat*K);have c2:=cut (i.toNat*K) (cs.length-i.toNat*K);rw[List.drop_zero,List.drop_zero]at c1;rw[List.take_of_length_le (by simp),List.take_of_length_le (by rw[BD,KI _ p1,p2];exact AI _)]at c2;exact(((I0 c1).app (I0 q3)).app (I0 c2))
     have hlen:(xs.take i.toNat++ys++xs.drop i.toNat).length=xs.length+ys.length:=by simp only[AO,Au,BD];omega
     have Bd:CZ w' el K (.slice (some ⟨g,0,none⟩) (xs.length+ys.length) cap) (.sl (xs.take i.toNat++ys++xs.drop i.toNat)) [g] []:=by
      refine⟨_,rfl,λy hy=> ?_,p0, .inr ⟨g,cap,C,by rw[hlen],by rw[hlen];exact z1,z2,z3,z4,rfl,?_,?_⟩⟩
      ·rcases Ac.1 hy with hy|hy
       ·rcases Ac.1 hy with hy|hy
        ·exact p1 y (Br hy)
        ·exact q1 y hy
       ·exact p1 y (BO hy)
      ·rw[hlen,<-z5];intro u hu;rcases Ac.1 hu with hu|hu
       ·rcases Ac.1 hu with hu|hu
        ·exact p4 u (Br hu)
        ·exact q4 u hu
       ·exact p4 u (BO hu)
      ·rw[hlen,<-z5];exact Da
     refine⟨_,rfl,⟨⟨_,[],[],[g],[],[],rfl,?_,?_,by simp,?_,by simp⟩,Bp.weaken λb hb=> .inl (by simp[hb])⟩⟩
     ·rw[g5];show D6 Tryz.prog w' t s.res _ _ [] [g];unfold D6;rw[hr,if_pos g12];refine⟨[.slice (some ⟨g,0,none⟩) (xs.length+ys.length) cap],[.sl (xs.take i.toNat++ys++xs.drop i.toNat)],by rw[g7];simp,?_⟩;rw[g8];have:=Cr.own (P:=Tryz.prog) (t:=t) (ts:=[]) (fl:=[true]) (us:=[]) (ys:=[]) (rf:=[]) (hs:=[]) rfl g9 (.inl ⟨g10,rfl⟩) (by rw[g11];exact Bd) .nil;simpa using this
     ·rw[g4,Cz,AE,hm];exact .va rfl (.ro rfl (.va rfl .nil))
     ·intro b hb;simp only[AE,List.mem_singleton]at hb;subst hb;exact⟨by rcases EM with h|h;exact .inl (by simp[h]);exact .inr h,Dp z3⟩
 ·cases hk
noncomputable def H4{α:Type}(xs:List α)(i:Int)(ys:List α):Option (List α):=AL (0<=i/\i<=xs.length/\0<ys.length/\(xs.length+ys.length)*1000<=140737488355328) (some (xs.take i.toNat++ys++xs.drop i.toNat))
theorem zEB{f t it el K:Nat}(hk:fP Tryz.prog B3 f t it el K=true)(B5:∀r,IT Tryz.prog B3 f r=true)(Fk:NI Tryz.prog f el K){α:Type}{av:α->AV}{xs ys r:List α}{i:Int}(h:H4 xs i ys=some r):
  Cl Tryz.prog B3 f [.sl (xs.map av), .int .i64 i, .sl (ys.map av)] (.sl (r.map av)):=by
 obtain⟨⟨h0,h1,h2,h3⟩,h⟩:=F6 h;cases h;have:=zEC hk B5 Fk (xs.map av) (ys.map av) i h0 (by simpa using h1) (by cases ys with|nil=>simp at h2|cons=>simp) (by simpa using h3);simpa[List.map_append,List.map_take,List.map_drop]using this
theorem mE{P:Program}{w:World}{t el K:Nat}{l:Ay}{v:Value}{x:AV}{rf hs:List Nat}(ha:Ao P t=false)(hl:A8 P t=[t])(he:CR P t=some el)(hf:Ca P el=false)(hd:DB P t=some (.row el K l))(h:NL P w t [true] v x rf hs):rf=[]/\DC w [.row el K l] [v] [x] hs:=by
 obtain⟨us,ys,h1,h2⟩:=h;rw[ha]at h1;simp only[AW,if_false]at h1;obtain⟨rfl,rfl⟩:=h1;rw[hl]at h2;cases h2 with
 |own q1 q2 q3 q4 q5=>
  rw[he]at q2;cases q2;rcases q3 with⟨h,_⟩|⟨_,h⟩
  ·rw[hf]at h;cases h
  ·rw[hd]at h;cases h
 |deep q1 q2 q3 q4 q5 q6=>cases q6;rw[hd]at q4;cases q4;exact⟨rfl,by simpa using q5⟩
 |rd q1=>have:=q1 rfl;rw[he]at this;cases this
theorem nL(l:List DT){n i:Nat}(hi:i<=n):BI n l=BI i l++BI (n-i) l:=by rw[<-Nl];congr 1;omega
theorem DC.cut{w:World}{xs:List AV}{l:List DT}{K:Nat}{cs:List Value}{N:List Nat}(hK:l.length=K)(h:DC w (BI xs.length l) cs (Aq xs) N)(hx:∀y∈xs,y.cells.length=K){i:Nat}(hi:i<=xs.length):
  ∃N1 N2,N=N1++N2/\DC w (BI i l) (cs.take (i*K)) (Aq (xs.take i)) N1/\DC w (BI (xs.length-i) l) (cs.drop (i*K)) (Aq (xs.drop i)) N2:=by
 have hlen:=h.len;have t1:=R0 hx hi;have hmul:=Bq K hi;rw[nL l hi,<-B8 (i*K) cs,<-B8 (i*K) (Aq xs)]at h;rw[KJ,hK]at hlen;obtain⟨N1,N2,rfl,h1,h2⟩:=DC.dr (by rw[KJ,hK,Au];omega) (by rw[KJ,hK,Au];omega) h;exact⟨N1,N2,rfl,by rw[t1.1];exact h1,by rw[t1.2];exact h2⟩
def eW(P:Program)(sg:BZ)(f:Nat)(t it el K:Nat)(l:List DT):Bool:=
 match P.funcs[f]?,sg f with
 |some fn,some s=>(match s.bz,s.res,s.ft,s.lo with
  | [.va [true], .ro, .va [true]],[true],[],[]=>true
  |_,_,_,_=>false)&&fn.body.isSome&& !(fn.name== "runtime.NumGoroutine")&&fn.params.toList==[t,it,t]&&(Dv fn s)==[t]&&fn.nfree==0&& !Ao P t&&A8 P t==[t]&&CR P t==some el&& !Ca P el&&KL (DB P t) el K l&&F4 P t [true]&&fn.params.size==3
 |_,_=>false
theorem zBT{f t it el K:Nat}{l:List DT}(hk:eW Tryz.prog B3 f t it el K l=true)(B5:∀r,IT Tryz.prog B3 f r=true)(Fk:NI Tryz.prog f el K)(xs ys:List AV)(i:Int)(h0:0<=i)(h1:i<=xs.length)(hy:ys≠ [])(hb:(xs.length+ys.length)*1000<=140737488355328):
  Cl Tryz.prog B3 f [.sl xs, .int .i64 i, .sl ys] (.sl (xs.take i.toNat++ys++xs.drop i.toNat)):=by
 unfold eW at hk;split at hk
 ·rename_i fn s hf hs;simp only[Ab,Bf,AK]at hk;obtain⟨⟨⟨⟨⟨⟨⟨⟨⟨⟨⟨⟨g1,g2⟩,g3⟩,g4⟩,g5⟩,g6⟩,g7⟩,g8⟩,g9⟩,g10⟩,g11⟩,g12⟩,g13⟩:=hk;have g11:=Pf g11;obtain⟨hm,hr,Cz,B0⟩:s.bz=[.va [true], .ro, .va [true]]/\s.res=[true]/\s.ft=[]/\s.lo=[]:=by
   split at g1
   ·rename_i a b c d;exact⟨a,b,c,d⟩
   ·cases g1
  unfold Cl;rw[if_pos (KQ f s hs)];refine⟨s,hs,fn,hf,g2,g3,by have:=B5 (xs.take i.toNat++ys++xs.drop i.toNat);unfold IT at this;rw[hf,hs]at this;exact this,by simp[g6,g13],by simp[Cz],λw vs rf lf A4 Ah hd _ B7 D1=> ?_⟩;rw[g4,Cz,AE,hm,B0]at Ah;cases Ah with
  |lent h _ _ _=>cases h
  | @cons _ _ _ _ v1 vs1 _ _ f1 k1 rf1 lf1 BM a1 Ah=>
   cases Ah with
   |lent h _ _ _=>cases h
   | @cons _ _ _ _ v2 vs2 _ _ f2 k2 rf2 lf2 A7 a2 Ah=>
    cases Ah with
    |lent h _ _ _=>cases h
    | @cons _ _ _ _ v3 vs3 _ _ f3 k3 rf3 lf3 Hk a3 Ah=>
     cases Ah;obtain⟨rfl,r1⟩:=mE g7 g8 g9 g10 g11 a1;obtain⟨rfl,r3⟩:=mE g7 g8 g9 g10 g11 a3;obtain⟨a2,rfl⟩:Rd w [v2] [AV.int .i64 i] f2/\k2=[]:=a2;obtain⟨us,rfl2,hI,a2⟩:=Sy a2;obtain⟨rfl,rfl⟩:=Pt a2;cases rfl2;obtain⟨p0,pl,r1'⟩:=r1.inv;obtain⟨_,_,⟨a,_,e2,_⟩|⟨vb,vc,VC,ys',M,rfl,e2,rfl,q1,q2,q3,q4,q5,q6,q7⟩⟩:=r3.inv
     ·cases e2;exact absurd rfl hy
     cases e2;rw[Ay.au]at pl q7;have eK:0<ys.length:=by cases ys with|nil=>exact absurd rfl hy|cons=>simp
     have hv:Dk w el K vb vc VC ys.length (VC.toList.take (ys.length*K)):=⟨q2,q3,q1,q4,rfl⟩
     obtain⟨cs,own,N,e1,GM,Aw,AY,hsin,dC,dL,IZ⟩:∃(cs:List Value) (own N:List Nat),k1=own++N/\own.length<=1/\cs.length=xs.length*K/\
       ((xs.length=0/\ ∃q,v1= .slice q 0 0)\/ ∃g cap C,v1= .slice (some ⟨g,0,none⟩) xs.length cap/\Dk w el K g cap C xs.length cs/\g∈own)/\(∀g∈own,g∈k1)/\(∀u∈cs,u.oneCell'=true)/\(∀y∈xs,y.cells.length=K)/\DC w (BI xs.length l) cs (Aq xs) N:=by
      rcases r1' with⟨a,rfl,e1,rfl⟩|⟨g,cap,C,xs',N,rfl,e1,rfl,d1,d2,d3,d4,d5,d6,d7⟩
      ·cases e1;exact⟨[],[],[],rfl,by simp,by simp, .inl ⟨rfl,a,rfl⟩,by simp,by simp,by simp,by simpa[BI,Aq]using DC.nil⟩
      ·cases e1;rw[Ay.au]at d7;have hR:Dk w el K g cap C xs.length (C.toList.take (xs.length*K)):=⟨d2,d3,d1,d4,rfl⟩
       exact⟨_,[g],N,rfl,by simp,hR.len, .inr ⟨g,cap,C,rfl,hR,by simp⟩,by simp,d6,d5,d7⟩
     subst e1;have Cd:i.toNat<=xs.length:=by omega
     have IY:∀g∈own,vb≠g:=by intro g hg e;subst e;have hn:((own++N)++([]++((vb::M)++ []))).Nodup:=B7;exact(List.nodup_append.1 hn).2.2 vb (by simp[hg]) vb (by simp) rfl
     have hc:=Fk w v1 xs.length i.toNat cs own vb vc ys.length VC _ Aw AY Cd hv IY eK hb q6 dC;rw[show((i.toNat:Nat):Int)=i by omega]at hc;refine hc.mono ?_;rintro e w' ⟨u,rfl,g,cap,C,rfl,⟨z1,z2,z3,z4,z5⟩,Bp,EM⟩;have ET:((own++N)++(vb::M)).Nodup:=by simpa using B7
     have dB:∀b∈N,b∉own:=λb hb ho=>(List.nodup_append.1 (List.nodup_append.1 ET).1).2.2 b ho b hb rfl;have qO:∀b∈M,b∉own:=λb hb ho=>(List.nodup_append.1 ET).2.2 b (by simp[ho]) b (by simp[hb]) rfl;have fN:=IZ.frame (w':=w') λb hb=>Bp.block b (IZ.inb b hb) (dB b hb);have fM:=q7.frame (w':=w') λb hb=>Bp.block b (q7.inb b hb) (qO b hb);obtain⟨N1,N2,rfl,c1,c2⟩:=fN.cut pl dL Cd;have hlen:(xs.take i.toNat++ys++xs.drop i.toNat).length=xs.length+ys.length:=by simp only[AO,Au,BD];omega
     have BV:DC w' (BI (xs.length+ys.length) l) (C.toList.take ((xs.length+ys.length)*K)) (Aq (xs.take i.toNat++ys++xs.drop i.toNat)) (N1++M++N2):=by rw[<-z5,R6,R6,show xs.length+ys.length=(i.toNat+ys.length)+(xs.length-i.toNat) by omega,Nl,Nl];exact(c1.app fM).app c2
     have Bd:DC w' [.row el K (Ay.of l)] [.slice (some ⟨g,0,none⟩) (xs.length+ys.length) cap] [.sl (xs.take i.toNat++ys++xs.drop i.toNat)] (g::(N1++M++N2)):=by
      have:=DC.row (w:=w') (e:=el) (z:=K) (l:=Ay.of l) (g:=g) (cap:=cap) (C:=C) (ys:=xs.take i.toNat++ys++xs.drop i.toNat) (N1:=N1++M++N2) (ts:=[]) (vs:=[]) (xs:=[]) (N:=[]) p0 (by rw[Ay.au];exact pl) z3 (by rw[hlen];exact z1) z2 z4 (λy hy=> ?_) (by
       rw[hlen,<-z5];intro u hu;rcases Ac.1 hu with hu|hu
       ·rcases Ac.1 hu with hu|hu
        ·exact dC u (Br hu)
        ·exact q6 u hu
       ·exact dC u (BO hu)) (by rw[hlen,Ay.au];exact BV) .nil
      ·rw[hlen]at this;simpa using this
      ·rcases Ac.1 hy with hy|hy
       ·rcases Ac.1 hy with hy|hy
        ·exact dL y (Br hy)
        ·exact q5 y hy
       ·exact dL y (BO hy)
     have BX:∀b∈N1++M++N2,b∈(own++(N1++N2))++(vb::M):=λb hb=>by simp only[Ac,Ae]at hb ⊢;rcases hb with(hb|hb)|hb<;>simp[hb]
     have Lm:(N1++M++N2).Nodup:=by
      have h1:((N1++N2)++M).Nodup:=((List.nodup_append.1 ET).1.sublist (List.sublist_append_right _ _)|>λa=>List.nodup_append.2 ⟨a,((List.nodup_append.1 ET).2.1).sublist (List.sublist_cons_self _ _),λp hp q hq=>(List.nodup_append.1 ET).2.2 p (List.mem_append_right _ hp) q (List.mem_cons_of_mem _ hq)⟩)
      exact(List.Perm.nodup_iff (by rw[List.append_assoc,List.append_assoc];exact List.Perm.append_left _ List.perm_append_comm)).1 h1
     have hgn:g∉N1++M++N2:=by
      intro CW;rcases EM with hg|hg
      ·simp only[Ac]at CW;rcases CW with(CW|CW)|CW
       ·exact dB g (by simp[CW]) hg
       ·exact qO g CW hg
       ·exact dB g (by simp[CW]) hg
      ·simp only[Ac]at CW;rcases CW with(CW|CW)|CW
       ·have:=IZ.inb g (by simp[CW]);omega
       ·have:=q7.inb g CW;omega
       ·have:=IZ.inb g (by simp[CW]);omega
     refine⟨_,rfl,⟨⟨_,[],[],g::(N1++M++N2),[],[],rfl,?_,?_,?_,?_,by simp⟩,Bp.weaken λb hb=> .inl (by simp[hb])⟩⟩
     ·rw[g5];show D6 Tryz.prog w' t s.res _ _ [] _;unfold D6;rw[hr,if_pos g12];refine⟨[.slice (some ⟨g,0,none⟩) (xs.length+ys.length) cap],[.sl (xs.take i.toNat++ys++xs.drop i.toNat)],by rw[g7];simp,?_⟩;rw[g8];have:=Cr.deep (P:=Tryz.prog) (t:=t) (ts:=[]) (fl:=[true]) (us:=[]) (ys:=[]) (rf:=[]) (hs:=[]) rfl g9 g10 g11 Bd .nil;simpa using this
     ·rw[g4,Cz,AE,hm];exact .va rfl (.ro rfl (.va rfl .nil))
     ·rw[AE];exact List.nodup_cons.2 ⟨hgn,Lm⟩
     ·intro b hb;rw[AE]at hb;rcases Ae.1 hb with rfl|hb
      ·exact⟨by rcases EM with h|h;exact .inl (by simp[h]);exact .inr h,Dp z3⟩
      ·have:=BX b hb;refine⟨.inl (by simpa using this),?_⟩;have AG:b<w.heap.size:=by
        simp only[Ac,Ae]at hb;rcases hb with(hb|hb)|hb
        ·exact IZ.inb b (by simp[hb])
        ·exact q7.inb b hb
        ·exact IZ.inb b (by simp[hb])
       have:=Bp.size;omega
 ·cases hk
theorem zpO{P:Program}(w:World)(t ty el:TypeId)(i:TypeInfo)(ht:P.underlying t=some (.slice el))(hi:P.info? el=some i)(k:Nat)(hk:i.size=k)(g n cap:Nat)(a:Addr)(m c:Nat)(cur:Array Value)(news:List Value)
  (hg:w.heap[g]?=some (.cells cur el (0,0))) (hl:news.length=m*k) (C7:∀j u,news[j]?=some u->w.cell? (a.add j)=some u) (h1:∀u∈news,u.oneCell'=true) (BQ:n+m<=cap) (EI:n*k+news.length<=cur.size):
  (Builtin.append_ #[t,t] ty #[.slice (some ⟨g,0,none⟩) n cap, .slice (some a) m c]).run P w= .ok (.slice (some ⟨g,0,none⟩) (n+m) cap) (w.setRow g (cur.toList.take (n*k)++news++cur.toList.drop (n*k+news.length)).toArray):=by
 subst hk;have Tu:=run_firstCells_some (P:=P) w i.size m a m c news hl C7;have Em:=run_storeCells_at P g (n*i.size) el news 0 cur w hg (by simpa using EI) h1;simp only[Nat.add_zero]at Em;simp[Builtin.append_,run_underlying ht,sizeOf,typeInfo,hi,Builtin.lenOf,BQ,Tu,Addr.add_lit,Em]
theorem zyi{P:Program}(w:World)(t el ty:TypeId)(z:Value)(ht:P.underlying t=some (.slice el))(hv:∀w,(zeroValue el).run P w= .ok z w)(h1:∀u∈z.cells,u.oneCell'=true)(g o n c:Nat)(cur:Array Value)(hn:0<n)
  (hg:w.heap[g]?=some (.cells cur el (0,0))) (EI:o+n*z.cells.size<=cur.size):
  (Builtin.clear_ #[t] ty #[.slice (some ⟨g,o,none⟩) n c]).run P w= .ok (.tuple #[]) (w.setRow g (cur.toList.take o++(Builtin.zeroCells z.cells n).toList++cur.toList.drop (o+(Builtin.zeroCells z.cells n).toList.length)).toArray):=by
 have Em:=run_storeCells_at P g o el (Builtin.zeroCells z.cells n).toList 0 cur w hg (by simpa[size_zeroCells]using EI) (λu hu=>by
  have hu:u∈Builtin.zeroCells z.cells n:=by simpa using hu
  unfold Builtin.zeroCells at hu;obtain⟨j,hj,rfl⟩:=Array.mem_map.1 hu;have hj:j<n*z.cells.size:=by simpa using hj
  have h0:0<z.cells.size:=by
   rcases Nat.eq_zero_or_pos z.cells.size with h|h
   ·rw[h]at hj;omega
   ·exact h
  rw[getElem!_pos z.cells _ (Nat.mod_lt _ h0)];exact h1 _ (Array.getElem_mem _))
 simp only[Nat.add_zero]at Em;obtain⟨m,rfl⟩:∃m,n=m+1:=⟨n-1,by omega⟩
 simp[Builtin.clear_,run_underlying ht,hv,Em]
theorem zpw{P:Program}{ops:Array Oper}{o:Oper}{a:Act}{w:World}{K:Act->World->Prop}{Q:Exit->Act->World->Prop}{E:Prop}
  (hg:o.guard=none) (s x:Operand) (t:TypeId) (AT:o.op=Op.call {callee:=Callee.builtin Builtin.append,args:= #[s,x],argTypes:= #[t,t]})
  (v u:Value) (hs:a.eval s=v) (hx:a.eval x=u) {v':Value} {w':World} (hr:∀ty,(Builtin.append_ #[t,t] ty #[v,u]).run P w= .ok v' w') (hK:K (a.put o.dst v') w'):
  if Region.wanted o (yielded ops a.tmps)=true then Oper.wp P o a w K Q else E:=by
 have hw:Region.wanted o (yielded ops a.tmps)=true:=by simp[Region.wanted,hg]
 rw[if_pos hw];unfold Oper.wp;simp[execOp,AT,resolve,invoke,builtin,hs,hx,hr,Result.andThen];exact hK
def eY(P:Program)(f:Nat)(el:TypeId)(k:Nat):Prop:=
 ∀(w:World) (n i j g cap:Nat) (C:Array Value) (cs:List Value),Dk w el k g cap C n cs->i<j->j<=n->(∀u∈cs,u.oneCell'=true)->
  Calls P f #[.slice (some ⟨g,0,none⟩) n cap, .int .i64 i, .int .i64 j] w λe w'=> ∃C',e= .returned (.slice (some ⟨g,0,none⟩) (n-(j-i)) cap)/\Dk w' el k g cap C' (n-(j-i)) (cs.take (i*k)++cs.drop (j*k))/\Mod [g] w w'
def eZ(P:Program)(sg:BZ)(f:Nat)(t it el K:Nat)(l:List DT):Bool:=
 match P.funcs[f]?,sg f with
 |some fn,some s=>(match s.bz,s.res,s.ft,s.lo with
  | [.va [true], .ro, .ro],[true],[],[]=>true
  |_,_,_,_=>false)&&fn.body.isSome&& !(fn.name== "runtime.NumGoroutine")&&fn.params.toList==[t,it,it]&&(Dv fn s)==[t]&&fn.nfree==0&& !Ao P t&&A8 P t==[t]&&CR P t==some el&& !Ca P el&&KL (DB P t) el K l&&F4 P t [true]&&fn.params.size==3
 |_,_=>false
theorem zCU{f t it el K:Nat}{l:List DT}(hk:eZ Tryz.prog B3 f t it el K l=true)(B5:∀r,IT Tryz.prog B3 f r=true)(Ju:eY Tryz.prog f el K)(xs:List AV)(i j:Int)(h0:0<=i)(h1:i<j)(h2:j<=xs.length):
  Cl Tryz.prog B3 f [.sl xs, .int .i64 i, .int .i64 j] (.sl (xs.take i.toNat++xs.drop j.toNat)):=by
 unfold eZ at hk;split at hk
 ·rename_i fn s hf hs;simp only[Ab,Bf,AK]at hk;obtain⟨⟨⟨⟨⟨⟨⟨⟨⟨⟨⟨⟨g1,g2⟩,g3⟩,g4⟩,g5⟩,g6⟩,g7⟩,g8⟩,g9⟩,g10⟩,g11⟩,g12⟩,g13⟩:=hk;have g11:=Pf g11;obtain⟨hm,hr,Cz,B0⟩:s.bz=[.va [true], .ro, .ro]/\s.res=[true]/\s.ft=[]/\s.lo=[]:=by
   split at g1
   ·rename_i a b c d;exact⟨a,b,c,d⟩
   ·cases g1
  unfold Cl;rw[if_pos (KQ f s hs)];refine⟨s,hs,fn,hf,g2,g3,by have:=B5 (xs.take i.toNat++xs.drop j.toNat);unfold IT at this;rw[hf,hs]at this;exact this,by simp[g6,g13],by simp[Cz],λw vs rf lf A4 Ah hd _ B7 D1=> ?_⟩;rw[g4,Cz,AE,hm,B0]at Ah;cases Ah with
  |lent h _ _ _=>cases h
  | @cons _ _ _ _ v1 vs1 _ _ f1 k1 rf1 lf1 BM a1 Ah=>
   cases Ah with
   |lent h _ _ _=>cases h
   | @cons _ _ _ _ v2 vs2 _ _ f2 k2 rf2 lf2 A7 a2 Ah=>
    cases Ah with
    |lent h _ _ _=>cases h
    | @cons _ _ _ _ v3 vs3 _ _ f3 k3 rf3 lf3 Hk a3 Ah=>
     cases Ah;obtain⟨rfl,r1⟩:=mE g7 g8 g9 g10 g11 a1;obtain⟨a2,rfl⟩:Rd w [v2] [AV.int .i64 i] f2/\k2=[]:=a2;obtain⟨us,rfl2,hI,a2⟩:=Sy a2;obtain⟨rfl,rfl⟩:=Pt a2;cases rfl2;obtain⟨a3,rfl⟩:Rd w [v3] [AV.int .i64 j] f3/\k3=[]:=a3;obtain⟨us,rfl3,hJ,a3⟩:=Sy a3;obtain⟨rfl,rfl⟩:=Pt a3;cases rfl3;obtain⟨p0,pl,⟨a,rfl,e1,rfl⟩|⟨g,cap,C,xs',N,rfl,e1,rfl,d1,d2,d3,d4,d5,d6,d7⟩⟩:=r1.inv
     ·cases e1;simp at h2;omega
     cases e1;rw[Ay.au]at d7 pl;have hR:Dk w el K g cap C xs.length (C.toList.take (xs.length*K)):=⟨d2,d3,d1,d4,rfl⟩
     have hc:=Ju w xs.length i.toNat j.toNat g cap C _ hR (by omega) (by omega) d6;rw[show((i.toNat:Nat):Int)=i by omega,show((j.toNat:Nat):Int)=j by omega]at hc;refine hc.mono ?_;rintro e w' ⟨C',rfl,⟨z1,z2,z3,z4,z5⟩,Bp⟩;have ET:(g::N).Nodup:=by simpa using B7
     have cB:g∉N:=(List.nodup_cons.1 ET).1;have fN:=d7.frame (w':=w') λb hb=>Bp.block b (d7.inb b hb) (λh=>by rw[List.mem_singleton]at h;subst h;exact cB hb);obtain⟨N1,N2',rfl,c1,_⟩:=fN.cut pl d5 (show i.toNat<=xs.length by omega);obtain⟨N1',N2,e3,_,c2⟩:=fN.cut pl d5 (show j.toNat<=xs.length by omega);have hlen:(xs.take i.toNat++xs.drop j.toNat).length=xs.length-(j.toNat-i.toNat):=by simp only[AO,Au,BD];omega
     obtain⟨NA,NB,NC,eN,k1,_,k3⟩:=fN.split (i.toNat*K) ((j.toNat-i.toNat)*K);have ti:=R0 d5 (show i.toNat<=xs.length by omega);have tj:=R0 d5 (show j.toNat<=xs.length by omega);have Ew:i.toNat*K+(j.toNat-i.toNat)*K=j.toNat*K:=by rw[<-Nat.add_mul,show i.toNat+(j.toNat-i.toNat)=j.toNat by omega]
     have eA:(BI xs.length l).take (i.toNat*K)=BI i.toNat l:=by
      have hli:(BI i.toNat l).length=i.toNat*K:=by rw[KJ,pl]
      rw[nL l (show i.toNat<=xs.length by omega),<-hli];exact List.take_left
     have eC:(BI xs.length l).drop (j.toNat*K)=BI (xs.length-j.toNat) l:=by
      have hlj:(BI j.toNat l).length=j.toNat*K:=by rw[KJ,pl]
      rw[nL l (show j.toNat<=xs.length by omega),<-hlj];exact List.drop_left
     rw[eA,<-ti.1]at k1;rw[Ew,eC,<-tj.2]at k3;have BV:DC w' (BI (xs.length-(j.toNat-i.toNat)) l) (C'.toList.take ((xs.length-(j.toNat-i.toNat))*K)) (Aq (xs.take i.toNat++xs.drop j.toNat)) (NA++NC):=by rw[<-z5,R6,show xs.length-(j.toNat-i.toNat)=i.toNat+(xs.length-j.toNat) by omega,Nl];exact k1.app k3
     have MH:(g::(NA++NC)).Sublist (g::(N1++N2')):=by rw[eN];refine List.Sublist.cons_cons _ ?_;rw[List.append_assoc];exact List.Sublist.append (List.Sublist.refl _) (List.sublist_append_right _ _)
     have Bd:DC w' [.row el K (Ay.of l)] [.slice (some ⟨g,0,none⟩) (xs.length-(j.toNat-i.toNat)) cap] [.sl (xs.take i.toNat++xs.drop j.toNat)] (g::(NA++NC)):=by
      have:=DC.row (w:=w') (e:=el) (z:=K) (l:=Ay.of l) (g:=g) (cap:=cap) (C:=C') (ys:=xs.take i.toNat++xs.drop j.toNat) (N1:=NA++NC) (ts:=[]) (vs:=[]) (xs:=[]) (N:=[]) p0 (by rw[Ay.au];exact pl) z3 (by rw[hlen];exact z1) z2 z4 (λy hy=> ?_) (by
       rw[hlen,<-z5];intro u hu;rcases Ac.1 hu with hu|hu
       ·exact d6 u (Br hu)
       ·exact d6 u (BO hu)) (by rw[hlen,Ay.au];exact BV) .nil
      ·rw[hlen]at this;simpa using this
      ·rcases Ac.1 hy with hy|hy
       ·exact d5 y (Br hy)
       ·exact d5 y (BO hy)
     refine⟨_,rfl,⟨⟨_,[],[],g::(NA++NC),[],[],rfl,?_,?_,?_,?_,by simp⟩,Bp.weaken λb hb=> .inl (by simp at hb;simp[hb])⟩⟩
     ·rw[g5];show D6 Tryz.prog w' t s.res _ _ [] _;unfold D6;rw[hr,if_pos g12];refine⟨[.slice (some ⟨g,0,none⟩) (xs.length-(j.toNat-i.toNat)) cap],[.sl (xs.take i.toNat++xs.drop j.toNat)],by rw[g7];simp,?_⟩;rw[g8];have:=Cr.deep (P:=Tryz.prog) (t:=t) (ts:=[]) (fl:=[true]) (us:=[]) (ys:=[]) (rf:=[]) (hs:=[]) rfl g9 g10 g11 Bd .nil;simpa using this
     ·rw[g4,Cz,AE,hm];exact .va rfl (.ro rfl (.ro rfl .nil))
     ·rw[AE];exact ET.sublist MH
     ·intro b hb;rw[AE]at hb;have Cc:=MH.subset hb;refine⟨.inl (by simpa using Cc),?_⟩;have AG:b<w.heap.size:=by
       rcases Ae.1 Cc with rfl|Cc
       ·exact Dp d1
       ·exact d7.inb b Cc
      have:=Bp.size;omega
 ·cases hk
noncomputable def VD{α:Type}(xs:List α)(i j:Int):Option (List α):=AL (0<=i/\i<j/\j<=xs.length) (some (xs.take i.toNat++xs.drop j.toNat))
theorem zy9{f t it el K:Nat}{l:List DT}(hk:eZ Tryz.prog B3 f t it el K l=true)(B5:∀r,IT Tryz.prog B3 f r=true)(Ju:eY Tryz.prog f el K){α:Type}{av:α->AV}{xs r:List α}{i j:Int}(h:VD xs i j=some r):
  Cl Tryz.prog B3 f [.sl (xs.map av), .int .i64 i, .int .i64 j] (.sl (r.map av)):=by
 obtain⟨⟨h0,h1,h2⟩,h⟩:=F6 h;cases h;have:=zCU hk B5 Ju (xs.map av) i j h0 h1 (by simpa using h2);simpa[List.map_append,List.map_take,List.map_drop]using this
theorem zT{f t it el K:Nat}{l:List DT}(hk:eW Tryz.prog B3 f t it el K l=true)(B5:∀r,IT Tryz.prog B3 f r=true)(Fk:NI Tryz.prog f el K){α:Type}{av:α->AV}{xs ys r:List α}{i:Int}(h:H4 xs i ys=some r):
  Cl Tryz.prog B3 f [.sl (xs.map av), .int .i64 i, .sl (ys.map av)] (.sl (r.map av)):=by
 obtain⟨⟨h0,h1,h2,h3⟩,h⟩:=F6 h;cases h;have:=zBT hk B5 Fk (xs.map av) (ys.map av) i h0 (by simpa using h1) (by cases ys with|nil=>simp at h2|cons=>simp) (by simpa using h3);simpa[List.map_append,List.map_take,List.map_drop]using this
class Ij(P:Program)(el K:Nat)(st it ov:outParam Nat):Prop where
 u:P.underlying st=some (.slice el)
 v:P.underlying it=some (.int .i64)
 i:∃i z,P.info? el=some i/\i.size=K/\i.zero=some z/\z.cells.size=K/\i.bytes<=1000/\0<K
 o:∃fn bt,P.funcs[ov]?=some fn/\(fn.name== "runtime.NumGoroutine")=false/\fn.body.isNone=true/\Extern.findNext fn=none/\Extern.find fn=some (Extern.SlicesOverlaps.overlaps #[st,st] #[bt])
def sG(P:Program)(el K:Nat):Bool:=match P.info? el with
 |some i=>(match i.zero with|some z=>i.size==K&&z.cells.size==K&&decide (i.bytes<=1000)&&decide (0<K)|none=>false)
 |none=>false
theorem o0{P:Program}{el K:Nat}(h:sG P el K=true):∃i z,P.info? el=some i/\i.size=K/\i.zero=some z/\z.cells.size=K/\i.bytes<=1000/\0<K:=by
 unfold sG at h;split at h
 ·rename_i i hi;split at h
  ·rename_i z hz;simp only[Ab,AK,AR]at h;exact⟨i,z,hi,h.1.1.1,hz,h.1.1.2,h.1.2,h.2⟩
  ·cases h
 ·cases h
def Xh(P:Program)(f el K:Nat):Prop:= ∀(w:World) (v:Value) (n:Nat) (cs:List Value) (own:List Nat) (vb vc m:Nat) (VC:Array Value) (vs:List Value),cs.length=n*K->
 ((n=0/\ ∃q,v= .slice q 0 0)\/ ∃g cap C,v= .slice (some ⟨g,0,none⟩) n cap/\Dk w el K g cap C n cs/\g∈own)->Dk w el K vb vc VC m vs->0<m->(n+m)*1000<=140737488355328->(∀u∈vs,u.oneCell'=true)->
 Calls P f #[v, .int .i64 n, .slice (some ⟨vb,0,none⟩) m vc] w λe w'=> ∃u,e= .returned u/\OL w w' el K own u (n+m) (cs++vs)
def Xk(P:Program)(f el K:Nat):Prop:= ∀(w:World) (n i g cap:Nat) (C:Array Value) (cs:List Value) (own:List Nat) (vb vc m:Nat) (VC:Array Value) (vs:List Value),Dk w el K g cap C n cs->i<n->cap<n+m->Dk w el K vb vc VC m vs->0<m->(n+m)*1000<=140737488355328->
 (∀u∈vs,u.oneCell'=true)->(∀u∈cs,u.oneCell'=true)->
 Calls P f #[.slice (some ⟨g,0,none⟩) n cap, .int .i64 i, .slice (some ⟨vb,0,none⟩) m vc] w λe w'=> ∃u,e= .returned u/\OL w w' el K own u (n+m) (cs.take (i*K)++vs++cs.drop (i*K))
def Xi(P:Program)(f el K:Nat):Prop:= ∀(w:World) (n i g cap:Nat) (C:Array Value) (cs:List Value) (own:List Nat) (vb vc m:Nat) (VC:Array Value) (vs:List Value),Dk w el K g cap C n cs->g∈own->i<n->n+m<=cap->vb≠g->Dk w el K vb vc VC m vs->0<m->
 (∀u∈vs,u.oneCell'=true)->(∀u∈cs,u.oneCell'=true)->
 Calls P f #[.slice (some ⟨g,0,none⟩) n cap, .int .i64 i, .slice (some ⟨vb,0,none⟩) m vc] w λe w'=> ∃u,e= .returned u/\OL w w' el K own u (n+m) (cs.take (i*K)++vs++cs.drop (i*K))
theorem oG{P:Program}{f el K:Nat}(h1:Xh P f el K)(h2:Xk P f el K)(h3:Xi P f el K):NI P f el K:=by
 intro w v n i cs own vb vc m VC vs Aw AY Cd hv Qa hm hb GK GJ;by_cases he:i=n
 ·subst he;refine(h1 w v i cs own vb vc m VC vs Aw AY hv hm hb GK).mono ?_;rintro e w' ⟨u,rfl,h⟩;refine⟨u,rfl,?_⟩;rw[List.take_of_length_le (by omega),List.drop_eq_nil_of_le (by omega),AE];exact h
 ·rcases AY with⟨rfl,_⟩|⟨g,cap,C,rfl,hr,hg⟩
  ·omega
  ·by_cases hc:n+m<=cap
   ·exact h3 w n i g cap C cs own vb vc m VC vs hr hg (by omega) hc (Qa g hg) hv hm GK GJ
   ·exact h2 w n i g cap C cs own vb vc m VC vs hr (by omega) (by omega) hv hm hb GK GJ
theorem zBm{P:Program}{el K st it ov:Nat}[hI:Ij P el K st it ov]{w:World}{v:Value}{n:Nat}{cs:List Value}{own:List Nat}{vb vc m:Nat}{VC:Array Value}{vs:List Value}(Aw:cs.length=n*K)
  (AY:(n=0/\ ∃q,v= .slice q 0 0)\/ ∃g cap C,v= .slice (some ⟨g,0,none⟩) n cap/\Dk w el K g cap C n cs/\g∈own) (hv:Dk w el K vb vc VC m vs) (hm:0<m) (hb:(n+m)*1000<=140737488355328) (GK:∀u∈vs,u.oneCell'=true):
  ∃v' w1,(Builtin.append_ #[st,st] st #[v, .slice (some ⟨vb,0,none⟩) m vc]).run P w= .ok v' w1/\OL w w1 el K own v' (n+m) (cs++vs):=by
 obtain⟨i0,z0,hi,hs,hz,CX,E4,hK⟩:=hI.i;have Dd:Src w i0.size (some ⟨vb,0,none⟩) m vs:= .inr ⟨_,rfl,by rw[hs];exact hv.len,λj u hj=>hv.cell 0 j u (by simpa using hj),GK⟩;obtain⟨v',w1,hr,AN⟩:=Su (P:=P) w st st el i0 z0 hI.u hi hz (by rw[CX,hs]) (by omega) (λb=>b∈own) v n cs (by rw[hs];exact Aw)
  (by
   rcases AY with h|⟨g,cap,C,rfl,⟨h1,h2,h3,h4,h5⟩,h6⟩
   ·exact .inl h
   ·exact .inr ⟨g,cap,C,rfl,h1,h2,h3,by rw[hs];exact h4,by rw[hs];exact h5,h6⟩)
  (some ⟨vb,0,none⟩) m vc vs Dd (by simp only[maxLen];omega) (by have:=Nat.mul_le_mul_left (n+m) E4;omega)
 refine⟨v',w1,hr,?_⟩;rcases AN with⟨_,_,h⟩|⟨g,cap,C,rfl,h1,h2,h3,h4,h5,h6,h7⟩
 ·omega
 ·refine⟨g,cap,C,rfl,⟨h1,h2,h3,by rw[hs]at h4;exact h4,by rw[hs]at h5;exact h5.symm⟩,?_,h7.symm.imp id λh=>by omega⟩;refine⟨h6.os,h6.tape,h6.output,h6.size,λb hb hn=>h6.block b hb λe=> ?_⟩;cases e;rcases h7 with h7|h7
  ·omega
  ·exact hn h7
theorem zCP{P:Program}{el K st it ov:Nat}[hI:Ij P el K st it ov]{w:World}{n i g cap:Nat}{C:Array Value}{cs:List Value}(own:List Nat){vb vc m:Nat}{VC:Array Value}{vs:List Value}(AY:Dk w el K g cap C n cs)(Cd:i<n)(BQ:cap<n+m)
  (hv:Dk w el K vb vc VC m vs) (hm:0<m) (hb:(n+m)*1000<=140737488355328) (GK:∀u∈vs,u.oneCell'=true) (GJ:∀u∈cs,u.oneCell'=true):
  ∃(G:Nat) (ROW ROW2 ROW3:Array Value),n+m<=G/\G<=9223372036854775807/\
   (∀ty,(Builtin.append_ #[st,it] ty #[.slice (some ⟨g,0,none⟩) i cap, .int .i64 ((n:Int)+(m:Int)-(i:Int))]).run P w= .ok (.slice (some ⟨w.heap.size,0,none⟩) (n+m) G) (w.drew.alloc (.cells ROW el)))/\
   (∀(W:World),W.heap=(w.alloc (.cells ROW el)).heap-> ∀ty dc,(Builtin.copy_ #[st,st] ty #[.slice (some ⟨w.heap.size,i*K,none⟩) (n+m-i) dc, .slice (some ⟨vb,0,none⟩) m vc]).run P W= .ok (goInt m) (W.setRow w.heap.size ROW2))/\
   (∀(W:World),W.heap=((w.alloc (.cells ROW el)).setRow w.heap.size ROW2).heap-> ∀ty dc sc,(Builtin.copy_ #[st,st] ty #[.slice (some ⟨w.heap.size,(i+m)*K,none⟩) (n+m-(i+m)) dc, .slice (some ⟨g,i*K,none⟩) (n-i) sc]).run P W= .ok (goInt ((n-i:Nat):Int)) (W.setRow w.heap.size ROW3))/\
   (∀W:World,W.os=w.os->W.tape=w.tape->W.output=w.output->W.heap=(((w.alloc (.cells ROW el)).setRow w.heap.size ROW2).setRow w.heap.size ROW3).heap->OL w W el K own (.slice (some ⟨w.heap.size,0,none⟩) (n+m) G) (n+m) (cs.take (i*K)++vs++cs.drop (i*K)))/\
   ((w.alloc (.cells ROW el)).drew).heap=(w.alloc (.cells ROW el)).heap/\(((w.alloc (.cells ROW el)).drew.setRow w.heap.size ROW2).drew).heap=((w.alloc (.cells ROW el)).setRow w.heap.size ROW2).heap:=by
 obtain⟨i0,z0,hi,hs,hz,CX,E4,hK⟩:=hI.i;have Aw:=AY.len;have En:=hv.len;have Th:=AY;obtain⟨Ll,FY,hg,Jq,Bx⟩:=Th;have JA:g<w.heap.size:=Dp hg;have hvw:vb<w.heap.size:=Dp hv.2.2.1;have By:(P.info? el).map (·.size)=some K:=by rw[hi];simp[hs]
 have qG:i+(n+m-i)=n+m:=by omega
 have WC:(n+m)*i0.bytes<=140737488355328:=Nat.le_trans (Nat.mul_le_mul_left _ E4) hb;have WD:(n+m-i)*i0.bytes<=140737488355328:=Nat.le_trans (Bq _ (by omega)) WC;have cI:i*K<=n*K:=Bq _ (by omega);have hold:(Builtin.firstCells i0.size i (.slice (some ⟨g,0,none⟩) i cap)).run P w.drew= .ok (cs.take (i*K)).toArray w.drew:=by
  rw[hs];exact run_firstCells_some w.drew K i ⟨g,0,none⟩ i cap (cs.take (i*K)) (by rw[Au];omega) (λj v hj=>by
   rw[List.getElem?_take]at hj;split at hj
   ·exact AY.cell 0 j v (by simpa using hj)
   ·cases hj)
 have P8:∀ty,(Builtin.append_ #[st,it] ty #[.slice (some ⟨g,0,none⟩) i cap, .int .i64 ((n:Int)+(m:Int)-(i:Int))]).run P w=
   .ok (.slice (some ⟨w.heap.size,0,none⟩) (n+m) (grownCap w (n+m) cap el)) (w.drew.alloc (.cells ((cs.take (i*K)).toArray++Builtin.zeroCells z0.cells (n+m-i)++Builtin.zeroCells z0.cells (grownCap w (n+m) cap el-(n+m))) el)):=λty=>by
  have h:=Lib.run_append_grow_zeros w st it ty el i0 z0 .i64 .i64 hI.u hI.v hi hz (some ⟨g,0,none⟩) i cap (cs.take (i*K)) hold (n+m-i) (by omega) (by omega) (by omega) (by omega) (by omega) (by rw[qG];exact growslice_fits BQ WC);rw[qG]at h;rw[show(n:Int)+(m:Int)-(i:Int)=((n+m-i:Nat):Int) by omega];exact h
 obtain⟨G,hG⟩:∃G,G=grownCap w (n+m) cap el:=⟨_,rfl⟩
 obtain⟨ROW,NV⟩:∃ROW:Array Value,ROW=(cs.take (i*K)).toArray++Builtin.zeroCells z0.cells (n+m-i)++Builtin.zeroCells z0.cells (G-(n+m)):=⟨_,rfl⟩
 have Wx:n+m<=G:=by rw[hG];exact grownCap_ge w _ _ _
 have S3:G<=maxLen:=by rw[hG];exact grownCap_le_maxLen w (n+m) cap el (by unfold maxLen;omega)
 rw[<-hG]at P8;rw[<-NV]at P8;have e1:(i+m)*K=i*K+m*K:=Nat.add_mul ..;have e2:(n+m)*K=n*K+m*K:=Nat.add_mul ..;have e3:(n+m-i)*K=n*K+m*K-i*K:=by rw[Nat.sub_mul,e2]
 have e4:(n-i)*K=n*K-i*K:=Nat.sub_mul ..;have e5:(G-(n+m))*K=G*K-(n*K+m*K):=by rw[Nat.sub_mul,e2]
 have e6:n*K+m*K<=G*K:=by rw[<-e2];exact Bq _ Wx
 have hRs:ROW.size=G*K:=by rw[NV];simp only[Array.size_append,List.size_toArray,Au,size_zeroCells,CX];omega
 obtain⟨ROW2,S8⟩:∃R:Array Value,R=(ROW.toList.take (i*K)++vs++ROW.toList.drop (i*K+vs.length)).toArray:=⟨_,rfl⟩
 obtain⟨ROW3,bA⟩:∃R:Array Value,R=(ROW2.toList.take ((i+m)*K)++cs.drop (i*K)++ROW2.toList.drop ((i+m)*K+(cs.drop (i*K)).length)).toArray:=⟨_,rfl⟩
 have aZ:ROW2.size=G*K:=by rw[S8];simp only[List.size_toArray,AO,Au,BD,BC];omega
 have bB:ROW3.size=G*K:=by rw[bA];simp only[List.size_toArray,AO,Au,BD,BC];omega
 obtain⟨N,hN⟩:∃N,N=w.heap.size:=⟨_,rfl⟩
 have hA:(w.alloc (.cells ROW el)).heap[N]?=some (.cells ROW el (0,0)):=by rw[hN];exact heap_alloc_new w _
 have hO:∀k,k<N->(w.alloc (.cells ROW el)).heap[k]?=w.heap[k]?:=λk hk=>Below.heap_alloc w _ k (by omega);have hB:((w.alloc (.cells ROW el)).setRow N ROW2).heap[N]?=some (.cells ROW2 el (0,0)):=setRow_heap _ _ _ _ _ _ hA;have pQ:∀k,k<N->((w.alloc (.cells ROW el)).setRow N ROW2).heap[k]?=w.heap[k]?:=λk hk=>by rw[setRow_other _ _ _ _ (by omega)];exact hO k hk
 rw[<-hN]at P8 ⊢;refine⟨G,ROW,ROW2,ROW3,Wx,S3,P8,λW hW ty dc=> ?_,λW hW ty dc sc=> ?_,λW w1 w2 w3 hW=> ?_,rfl,rfl⟩
 ·have h:=YS (P:=P) W st st ty el K N (i*K) (n+m-i) dc ⟨vb,0,none⟩ m vc ROW el vs hI.u By (by rw[hW];exact hA) (by rw[En,show Nat.min m (n+m-i)=m from Nat.min_eq_left (by omega)])
   (λj v hj=>by rw[World.cell?_of_block (w:=w) (by rw[Addr.add_lit,hW];exact hO vb (by omega))];exact hv.cell 0 j v (by simpa using hj)) (by rw[hRs,En];omega) GK
  rw[show Nat.min m (n+m-i)=m from Nat.min_eq_left (by omega),<-S8]at h;exact h
 ·have h:=YS (P:=P) W st st ty el K N ((i+m)*K) (n+m-(i+m)) dc ⟨g,i*K,none⟩ (n-i) sc ROW2 el (cs.drop (i*K)) hI.u By (by rw[hW];exact hB) (by rw[BD,Aw,show Nat.min (n-i) (n+m-(i+m))=n-i from Nat.min_eq_left (by omega)];omega)
   (λj v hj=>by rw[World.cell?_of_block (w:=w) (by rw[Addr.add_lit,hW];exact pQ g (by omega))];exact AY.cell (i*K) j v hj) (by rw[aZ,BD,Aw];omega) (λv hv=>GJ v (BO hv))
  rw[show Nat.min (n-i) (n+m-(i+m))=n-i from Nat.min_eq_left (by omega),<-bA]at h;exact h
 ·refine⟨N,G,ROW3,rfl,⟨Wx,S3,by rw[hW];exact setRow_heap _ _ _ _ _ _ hB,bB,?_⟩,⟨w1,w2,w3,by rw[hW];simp,λk hk _=>by rw[hW,setRow_other _ _ _ _ (by omega)];exact pQ k (by omega)⟩, .inr (by omega)⟩;have h:=two ((Builtin.zeroCells z0.cells (n+m-i)).toList++(Builtin.zeroCells z0.cells (G-(n+m))).toList) cs vs (i*K) (m*K) (n*K) ROW.toList (by rw[NV];simp) Aw cI En (by simp only[AO,BC,size_zeroCells,CX];omega);rw[bA,S8,Nat.add_mul n m,Nat.add_mul i m];exact h.symm
theorem zC3{P:Program}{el K st it ov:Nat}[hI:Ij P el K st it ov]{w:World}{n i g cap:Nat}{C:Array Value}{cs:List Value}{own:List Nat}{vb vc m:Nat}{VC:Array Value}{vs:List Value}(AY:Dk w el K g cap C n cs)(EM:g∈own)(Cd:i<n)(BQ:n+m<=cap)(Qa:vb≠g)
  (hv:Dk w el K vb vc VC m vs) (hm:0<m) (GK:∀u∈vs,u.oneCell'=true) (GJ:∀u∈cs,u.oneCell'=true):
  ∃C1 C2:Array Value,(∀lb cb,(callFunc ov #[.slice (some ⟨vb,0,none⟩) m vc, .slice (some ⟨g,(i+m)*K,none⟩) lb cb]).run P w= .ok (.value (.bool false)) w)/\
   (∀(W:World),W.heap=w.heap-> ∀ty dc sc,(Builtin.copy_ #[st,st] ty #[.slice (some ⟨g,(i+m)*K,none⟩) (n+m-(i+m)) dc, .slice (some ⟨g,i*K,none⟩) (n+m-i) sc]).run P W= .ok (goInt ((n-i:Nat):Int)) (W.setRow g C1))/\
   (∀(W:World),W.heap=(w.setRow g C1).heap-> ∀ty dc,(Builtin.copy_ #[st,st] ty #[.slice (some ⟨g,i*K,none⟩) (n+m-i) dc, .slice (some ⟨vb,0,none⟩) m vc]).run P W= .ok (goInt m) (W.setRow g C2))/\
   (∀W:World,W.os=w.os->W.tape=w.tape->W.output=w.output->W.heap=((w.setRow g C1).setRow g C2).heap->OL w W el K own (.slice (some ⟨g,0,none⟩) (n+m) cap) (n+m) (cs.take (i*K)++vs++cs.drop (i*K)))/\
   (w.drew).heap=w.heap/\(w.drew.setRow g C1).heap=(w.setRow g C1).heap:=by
 obtain⟨i0,z0,hi,hs,hz,CX,E4,hK⟩:=hI.i;obtain⟨fn,bt,f1,f2,f3,f4,f5⟩:=hI.o;have Aw:=AY.len;have En:=hv.len;have Th:=AY;obtain⟨Ll,FY,hg,Jq,Bx⟩:=Th;have JA:g<w.heap.size:=Dp hg;have By:(P.info? el).map (·.size)=some K:=by rw[hi];simp[hs]
 have T7:=hv.2.2.1;have cI:i*K<=n*K:=Bq _ (by omega);have e1:(i+m)*K=i*K+m*K:=Nat.add_mul ..;have e2:(n+m)*K=n*K+m*K:=Nat.add_mul ..;have e3:(n+m-i)*K=n*K+m*K-i*K:=by rw[Nat.sub_mul,e2]
 have e4:(n-i)*K=n*K-i*K:=Nat.sub_mul ..;have e6:n*K+m*K<=cap*K:=by rw[<-e2];exact Bq _ BQ
 have e7:0<cap*K:=Nat.mul_pos (by omega) hK;obtain⟨C1,Im⟩:∃R:Array Value,R=(C.toList.take ((i+m)*K)++cs.drop (i*K)++C.toList.drop ((i+m)*K+(cs.drop (i*K)).length)).toArray:=⟨_,rfl⟩
 obtain⟨C2,Mk⟩:∃R:Array Value,R=(C1.toList.take (i*K)++vs++C1.toList.drop (i*K+vs.length)).toArray:=⟨_,rfl⟩
 have K2:C1.size=cap*K:=by rw[Im];simp only[List.size_toArray,AO,Au,BD,BC];omega
 have K3:C2.size=cap*K:=by rw[Mk];simp only[List.size_toArray,AO,Au,BD,BC];omega
 have hB:(w.setRow g C1).heap[g]?=some (.cells C1 el (0,0)):=setRow_heap _ _ _ _ _ _ hg;have Lk:Nat.min (n+m-i) (n+m-(i+m))=n-i:=by rw[show Nat.min (n+m-i) (n+m-(i+m))=n+m-(i+m)from Nat.min_eq_right (by omega)];omega
 refine⟨C1,C2,λlb cb=> ?_,λW hW ty dc sc=> ?_,λW hW ty dc=> ?_,λW w1 w2 w3 hW=> ?_,rfl,rfl⟩
 ·rw[run_callFunc_extern f1 f2 f3 f4 f5,Lib.run_overlaps_apart w st bt el hI.u K (λw=>by simp[Go.sizeOf,typeInfo,hi,hs]) ⟨vb,0,none⟩ ⟨g,(i+m)*K,none⟩ m vc lb cb Qa el el VC.size C.size (by simp[World.shape?,T7]) (by simp[World.shape?,hg]) (by omega) (by simp[World.frozen?,T7]) (by simp[World.frozen?,T7])];rfl
 ·have h:=YS (P:=P) W st st ty el K g ((i+m)*K) (n+m-(i+m)) dc ⟨g,i*K,none⟩ (n+m-i) sc C el (cs.drop (i*K)) hI.u By (by rw[hW];exact hg) (by rw[BD,Aw,Lk];omega)
   (λj v hj=>by rw[World.cell?_of_block (w:=w) (by rw[hW])];exact AY.cell (i*K) j v hj) (by rw[Jq,BD,Aw];omega) (λv hv=>GJ v (BO hv))
  rw[Lk,<-Im]at h;exact h
 ·have h:=YS (P:=P) W st st ty el K g (i*K) (n+m-i) dc ⟨vb,0,none⟩ m vc C1 el vs hI.u By (by rw[hW];exact hB) (by rw[En,show Nat.min m (n+m-i)=m from Nat.min_eq_left (by omega)])
   (λj v hj=>by rw[World.cell?_of_block (w:=w) (by rw[Addr.add_lit,hW];exact setRow_other _ _ _ _ (by simpa using Qa))];exact hv.cell 0 j v (by simpa using hj)) (by rw[K2,En];omega) GK
  rw[show Nat.min m (n+m-i)=m from Nat.min_eq_left (by omega),<-Mk]at h;exact h
 ·have no:∀k,¬k∈own->k≠g:=λk hn e=>hn (e▸EM);refine⟨g,cap,C2,rfl,⟨BQ,FY,by rw[hW];exact setRow_heap _ _ _ _ _ _ hB,K3,?_⟩,⟨w1,w2,w3,by rw[hW];simp,λk hk hn=>by rw[hW,setRow_other _ _ _ _ (by first|exact no k hn|exact(no k hn).symm),setRow_other _ _ _ _ (by first|exact no k hn|exact(no k hn).symm)]⟩, .inl EM⟩;have h:=zGe C.toList cs vs (i*K) (m*K) (n*K) Bx cI En (by rw[BC,Jq];omega);rw[Mk,Im,Nat.add_mul n m,Nat.add_mul i m];exact h.symm
instance inf_Held:Ij Tryz.prog 108 5 48 3 285:=⟨Tryz.underlying48,Tryz.underlying3,o0 (by kernel_rfl),_,4,Tryz.func285,by kernel_rfl,by kernel_rfl,by kernel_rfl,by kernel_rfl⟩
instance inf_Told:Ij Tryz.prog 53 3 49 3 307:=⟨Tryz.underlying49,Tryz.underlying3,o0 (by kernel_rfl),_,4,Tryz.func307,by kernel_rfl,by kernel_rfl,by kernel_rfl,by kernel_rfl⟩
instance inf_Cell:Ij Tryz.prog 146 2 47 3 319:=⟨Tryz.underlying47,Tryz.underlying3,o0 (by kernel_rfl),_,4,Tryz.func319,by kernel_rfl,by kernel_rfl,by kernel_rfl,by kernel_rfl⟩
set_option maxHeartbeats 16000000 in
theorem n6:Xh Tryz.prog 252 108 5/\Xh Tryz.prog 282 53 3/\Xh Tryz.prog 306 146 2:=by
 refine⟨?_,?_,?_⟩<;>(
  intro w v n cs own vb vc m VC vs Aw AY hv hm hb GK;obtain⟨v',w1,hr,fin⟩:=zBm (P:=Tryz.prog) Aw AY hv hm hb GK;have WZ: ¬((m:Int)=0):=by omega
  clear hv GK Aw;rcases AY with⟨rfl,_|⟨qb,qo,qs⟩,rfl⟩|⟨g,cap,C,rfl,_,_⟩<;>(
   first|go_enter Tryz.func252,Tryz.ntmps252|go_enter Tryz.func282,Tryz.ntmps282|go_enter Tryz.func306,Tryz.ntmps306
   go_wp2_with (at_builtin;refine Lib.wpList_append_run _ rfl _ _ _ _ rfl _ _ rfl rfl _ _ hr ?_)
   all_goals (go_ret;exact⟨_,rfl,fin⟩)))
set_option maxHeartbeats 16000000 in
theorem nX:Xk Tryz.prog 252 108 5/\Xk Tryz.prog 282 53 3/\Xk Tryz.prog 306 146 2:=by
 refine⟨?_,?_,?_⟩<;>(
  intro w n i g cap C cs own vb vc m VC vs AY Cd BQ hv hm hb GK GJ;obtain⟨G,ROW,ROW2,ROW3,Wx,hG64,P8,bQ,Tm,fin,pK,aT⟩:=zCP (P:=Tryz.prog) own AY Cd BQ hv hm hb GK GJ;obtain⟨Ll,FY,hg,Jq, -⟩:=AY;have JA:=Dp hg;have WZ: ¬((m:Int)=0):=by omega
  have Ub: ¬((i:Int)=(n:Int)):=by omega
  have hz3:(cap:Int)<(n:Int)+(m:Int):=by omega
  have hGi: ¬(G=i):=by omega
  have hGim: ¬(G=i+m):=by omega
  have Tj: ¬(cap=i):=by omega
  have Qb:IntKind.i64.wrap ((i:Int)+(m:Int))=(i:Int)+(m:Int):=by rw[IntKind.wrap_i64];omega
  have Dx:(0:Int)<=(i:Int)+(m:Int):=by omega
  have cK:i<=n:=by omega
  have P9:((i:Int)+(m:Int)).toNat=i+m:=by omega
  have NZ:(i:Int)<=(n:Int):=by omega
  first|go_enter Tryz.func252,Tryz.ntmps252|go_enter Tryz.func282,Tryz.ntmps282|go_enter Tryz.func306,Tryz.ntmps306
  go_wp2_with (first
   |(at_builtin;refine Lib.wpList_append_run _ rfl _ _ _ _ rfl _ _ rfl rfl _ _ (P8 _) ?_)
   |(at_builtin;refine kJ _ rfl _ _ _ _ rfl _ _ rfl rfl (bQ _ pK _ _) ?_)
   |(at_builtin;refine kJ _ rfl _ _ _ _ rfl _ _ rfl rfl (Tm _ rfl _ _ _) ?_))
  go_region_law (refine wC rfl _ _ _ _ rfl _ _ (by simp[Act.eval,Act.put]) (by simp[Act.eval,Act.put]) (Tm _ aT _ (G-(i+m)) (cap-i)) ?_)
  go_wp2
  go_ret
  exact⟨_,rfl,fin _ rfl rfl rfl rfl⟩)
set_option maxHeartbeats 16000000 in
theorem nT:Xi Tryz.prog 252 108 5/\Xi Tryz.prog 282 53 3/\Xi Tryz.prog 306 146 2:=by
 refine⟨?_,?_,?_⟩<;>(
  intro w n i g cap C cs own vb vc m VC vs AY EM Cd BQ Qa hv hm GK GJ;obtain⟨C1,C2,dG,bO,bP,fin,aT,hF2⟩:=zC3 (P:=Tryz.prog) AY EM Cd BQ Qa hv hm GK GJ;obtain⟨Ll,Te,hg,Jq, -⟩:=AY;have Te:cap<=9223372036854775807:=Te;have JA:=Dp hg;have WZ: ¬((m:Int)=0):=by omega
  have Ub: ¬((i:Int)=(n:Int)):=by omega
  have hz3: ¬((cap:Int)<(n:Int)+(m:Int)):=by omega
  have Tj: ¬(cap=i):=by omega
  have hcim: ¬(cap=i+m):=by omega
  have Qb:IntKind.i64.wrap ((i:Int)+(m:Int))=(i:Int)+(m:Int):=by rw[IntKind.wrap_i64];omega
  have Dx:(0:Int)<=(i:Int)+(m:Int):=by omega
  have cK:i<=n:=by omega
  have P9:((i:Int)+(m:Int)).toNat=i+m:=by omega
  have NZ:(i:Int)<=(n:Int):=by omega
  have hb4:(i:Int)<=(n:Int)+(m:Int):=by omega
  clear hg hv
  first|go_enter Tryz.func252,Tryz.ntmps252|go_enter Tryz.func282,Tryz.ntmps282|go_enter Tryz.func306,Tryz.ntmps306
  go_wp2_with (simp only[dG])
  go_region_law (refine wC rfl _ _ _ _ rfl _ _ (by simp[Act.eval,Act.put]) (by simp[Act.eval,Act.put]) (bO _ aT _ (cap-(i+m)) (cap-i)) ?_)
  go_wp2_with (at_builtin;refine kJ _ rfl _ _ _ _ rfl _ _ rfl rfl (bP _ hF2 _ _) ?_)
  go_ret
  exact⟨_,rfl,fin _ rfl rfl rfl rfl⟩)
theorem zBZ:NI Tryz.prog 252 108 5:=oG n6.1 nX.1 nT.1
theorem zBX:NI Tryz.prog 282 53 3:=oG n6.2.1 nX.2.1 nT.2.1
theorem zBq:NI Tryz.prog 306 146 2:=oG n6.2.2 nX.2.2 nT.2.2
theorem zA2:∃i z,Tryz.prog.info? 108=some i/\i.size=5/\i.zero=some z/\z.cells.size=5/\ ∀u∈z.cells,u.oneCell'=true:=by
 have h:(match Tryz.prog.info? 108 with|some i=>(match i.zero with|some z=>i.size==5&&z.cells.size==5&&z.cells.all (λu=>u.oneCell')|none=>false)|none=>false)=true:=by kernel_rfl
 split at h
 ·rename_i i hi;split at h
  ·rename_i z hz;simp only[Ab,AK,Array.all_eq_true_iff_forall_mem]at h;exact⟨i,z,hi,h.1.1,hz,h.1.2,h.2⟩
  ·cases h
 ·cases h
set_option maxHeartbeats 4000000 in
theorem zB2:eY Tryz.prog 281 108 5:=by
 intro w n i j g cap C cs AY Ew hjn h1;obtain⟨i0,z0,hi,hs,hz,CX,rE⟩:=zA2;have hv:∀w,(zeroValue 108).run Tryz.prog w= .ok z0 w:=λw=>by simp[zeroValue,typeInfo,hi,hz]
 obtain⟨d,rfl⟩:∃d,j=i+d:=⟨j-i,by omega⟩
 obtain⟨m,rfl⟩:∃m,n=i+d+m:=⟨n-(i+d),by omega⟩
 have Aw:=AY.len;have Th:=AY;obtain⟨Ll,FY,hg,Jq,Bx⟩:=Th;have hcm':cap<=9223372036854775807:=FY;have hmul:=Bq 5 Ll;obtain⟨news,C7⟩:∃s,s=cs.drop ((i+d)*5):=⟨_,rfl⟩
 have JN:news.length=m*5:=by rw[C7,BD,Aw];omega
 have pH:∀u∈news,u.oneCell'=true:=λu hu=>by rw[C7]at hu;exact h1 u (BO hu)
 obtain⟨C1,Im⟩:∃R:Array Value,R=(C.toList.take (i*5)++news++C.toList.drop (i*5+news.length)).toArray:=⟨_,rfl⟩
 have K2:C1.size=cap*5:=by rw[Im];simp only[List.size_toArray,AO,Au,BD,BC];omega
 obtain⟨A,hA,Dd⟩:∃A:Addr,(if cap=i+d then some (⟨g,0,none⟩:Addr)else some ⟨g,(i+d)*5,none⟩)=some A/\ ∀q u,news[q]?=some u->w.cell? (A.add q)=some u:=by
  by_cases h:cap=i+d
  ·refine⟨⟨g,0,none⟩,by simp[h],λq u hu=> ?_⟩;have Cj:m=0:=by omega
   have h0:news.length=0:=by rw[JN,Cj,Nat.zero_mul]
   rw[List.length_eq_zero_iff.1 h0]at hu;simp at hu
  ·refine⟨⟨g,(i+d)*5,none⟩,by simp[h],λq u hu=> ?_⟩;exact AY.cell ((i+d)*5) q u (by rw[<-C7];exact hu)
 have IY:∀(W:World),W.heap=w.heap-> ∀ty,(Builtin.append_ #[48,48] ty #[.slice (some ⟨g,0,none⟩) i cap, .slice (some A) m (cap-(i+d))]).run Tryz.prog W= .ok (.slice (some ⟨g,0,none⟩) (i+m) cap) (W.setRow g C1):=λW hW ty=>by rw[Im];exact zpO W 48 ty 108 i0 Tryz.underlying48 hi 5 hs g i cap A m (cap-(i+d)) C news (by rw[hW];exact hg) JN (λq u hu=>by rw[World.cell?_of_block (w:=w) (by rw[hW])];exact Dd q u hu) pH (by omega) (by rw[Jq,JN];omega)
 obtain⟨W1,Ta⟩:∃W1,W1=w.drew.setRow g C1:=⟨_,rfl⟩
 have NW:W1.heap[g]?=some (.cells C1 108 (0,0)):=by rw[Ta];exact setRow_heap _ _ _ _ _ _ hg
 obtain⟨C2,Mk⟩:∃R:Array Value,R=(C1.toList.take ((i+m)*5)++(Builtin.zeroCells z0.cells d).toList++C1.toList.drop ((i+m)*5+(Builtin.zeroCells z0.cells d).toList.length)).toArray:=⟨_,rfl⟩
 have K3:C2.size=cap*5:=by rw[Mk];simp only[List.size_toArray,AO,Au,BD,BC,size_zeroCells,CX];omega
 have pZ:∀ty N c,N=d->(Builtin.clear_ #[48] ty #[.slice (some ⟨g,(i+m)*5,none⟩) N c]).run Tryz.prog W1= .ok (.tuple #[]) (W1.setRow g C2):=λty N c hN=>by subst hN;rw[Mk];exact zyi W1 48 108 ty z0 Tryz.underlying48 hv rE g ((i+m)*5) N c C1 (by omega) NW (by rw[CX,K2];omega)
 have fin:∀W:World,W.os=w.os->W.tape=w.tape->W.output=w.output->W.heap=(W1.setRow g C2).heap-> ∃C',Dk W 108 5 g cap C' (i+m) (cs.take (i*5)++cs.drop ((i+d)*5))/\Mod [g] w W:=λW w1 w2 w3 hW=>by
  refine⟨C2,⟨by omega,FY,by rw[hW];exact setRow_heap _ _ _ _ _ _ NW,K3,?_⟩,w1,w2,w3,by rw[hW,Ta];simp,λk hk hn=>by rw[hW,setRow_other _ _ _ _ (by simpa using hn),Ta,setRow_other _ _ _ _ (by simpa using hn)];rfl⟩;have l1:(C.toList.take (i*5)).length=i*5:=by rw[Au,BC,Jq];omega
  have e1:C1.toList.take ((i+m)*5)=C.toList.take (i*5)++news:=by
   rw[Im];show(C.toList.take (i*5)++news++_).take _=_;have l2:(C.toList.take (i*5)++news).length=(i+m)*5:=by rw[AO,l1,JN];omega
   rw[<-l2];exact List.take_left
  rw[Mk];show _=(C1.toList.take ((i+m)*5)++_++_).take _;rw[e1,List.append_assoc,<-C7,Bx,List.take_take];have l2:(C.toList.take (i*5)++news).length=(i+m)*5:=by rw[AO,l1,JN];omega
  rw[<-l2,List.take_left,Nat.min_eq_left (by omega)]
 have hlow: ¬cap=i+m:=by omega
 have HW:=Lib.hid Ta;have WG:0<d:=by omega
 have BF: ¬(i:Int)=(i:Int)+(d:Int):=by omega
 have h2:i<=cap:=by omega
 have h3:i+d<=cap:=by omega
 have mixed:Tryz.prog.follows Departure.mixedOrders=true:=by kernel_rfl
 have Dx:(0:Int)<=(i:Int)+(d:Int):=by omega
 have F8:(i:Int)+(d:Int)<=(i:Int)+(d:Int)+(m:Int):=by omega
 have P9:((i:Int)+(d:Int)).toNat=i+d:=by omega
 have hmn:i+d+m-(i+d)=m:=by omega
 have hcr2:=λty=>pZ ty (i+d+m-(i+m)) (cap-(i+m)) (by omega);clear pZ;clear AY Bx Jq hg Dd C7 JN pH Im K2 Mk K3 NW Ta CX rE hz hi hs hv hmul Aw h1
 go_enter Tryz.func281,Tryz.ntmps281
 go_wp2_with fail
 go_region_law_o (refine zpw rfl _ _ 48 rfl (.slice (some ⟨g,0,none⟩) i cap) (.slice (some A) m (cap-(i+d))) (by simp[Act.eval,Act.put]) (by simp[Act.eval,Act.put]) (IY _ rfl) ?_;rw[<-HW.out])
 go_wp2
 go_ret
 obtain⟨C',f1,f2⟩:=fin _ (by rw[HW.out];rfl) (by rw[HW.out];rfl) (by rw[HW.out];rfl) rfl;exact⟨C',by simp;omega,by rw[show i+d+m-(i+d-i)=i+m by omega];exact f1,f2⟩
end Go.Proofs.YtalagilebkaegaaGreat
end
section
namespace Go.Proofs.YtalagilebkaegaaGreat
open Go.RowKit Go.Sort
set_option maxRecDepth 100000
def sW(P:Program)(sg:BZ)(f:Nat)(t el K:Nat):Bool:=
 match P.funcs[f]?,sg f with
 |some fn,some s=>(match s.bz,s.res,s.ft,s.lo with
  | [.va [true]],[true],[],[]=>true
  |_,_,_,_=>false)&&fn.body.isSome&& !(fn.name== "runtime.NumGoroutine")&&fn.params.toList==[t]&&(Dv fn s)==[t]&&fn.nfree==0&& !Ao P t&&A8 P t==[t]&&CR P t==some el&&Ca P el&&P.cellsOf el==K&&F4 P t [true]&&fn.params.size==1
 |_,_=>false
variable {α:Type} [Inhabited α] {enc:α->Value}
theorem vL{w:World}{b q:Nat}{d:Array α}{C:Array Value}{el:TypeId}(h:w.heap[b]?=some (.cells C el (0,0))):
  (putRow enc (Sort.ahead w q) b 0 d).heap[b]?=some (.cells (Go.Sort.putCells enc 0 d C) el (0,0)):=by
 show(w.heap.modify b (onCells (Go.Sort.putCells enc 0 d)))[b]?=_;rw[Array.getElem?_modify,if_pos rfl,h];rfl
theorem wQ{w:World}{b q:Nat}{d:Array α}:Mod [b] w (putRow enc (Sort.ahead w q) b 0 d):=by
 refine⟨rfl,rfl,rfl,?_,λj hj hn=> ?_⟩
 ·show w.heap.size<=(w.heap.modify b (onCells (Go.Sort.putCells enc 0 d))).size;simp
 ·show(w.heap.modify b (onCells (Go.Sort.putCells enc 0 d)))[j]?=_;rw[Array.getElem?_modify,if_neg (by simpa[eq_comm]using hn)]
theorem vU(C:Array Value)(r z:List α)(h:r.length+z.length<=C.size):(Go.Sort.putCells enc 0 (r++z).toArray C).toList.take r.length=r.map enc:=by
 apply List.ext_getElem?;intro j;by_cases hj:j<r.length
 ·have hc:j<C.size:=by omega
  rw[List.getElem?_take,if_pos hj,List.getElem?_map,Bg hj,Option.map_some,Array.getElem?_toList];have:j<(Go.Sort.putCells enc 0 (r++z).toArray C).size:=by simp[Go.Sort.putCells];exact hc
  rw[Array.getElem?_eq_getElem this];simp only[Go.Sort.putCells,Array.getElem_mapIdx,Nat.zero_le,true_and,Nat.zero_add,Nat.sub_zero];rw[if_pos (by simp;omega)];have h2:j<(r++z).toArray.size:=by simp;omega
  rw[getElem!_pos _ j h2];simp[hj]
 ·rw[List.getElem?_take,if_neg hj,List.getElem?_eq_none (by simpa using hj)]
theorem sD(b:ByteArray):encStr b.data.toList= .string b:=by show Value.string ⟨b.data.toList.toArray⟩= .string b;cases b;simp
theorem oY{w:World}:∀(r:List (List UInt8)),(∀s∈r,s.length<=9223372036854775807)->Rd w (r.map encStr) (Aq (r.map DF)) []
 | [],_=>by simpa[Aq]using Rd.nil
 |s::r,h=>by
  have e:Aq ((s::r).map DF)= .str s::Aq (r.map DF):=by simp[Aq,DF,AV.cells]
  rw[e,List.map_cons];have:=Rd.str (w:=w) (s:=⟨s.toArray⟩) (by show s.toArray.size<=_;simpa using h s (by simp)) (oY r λx hx=>h x (by simp[hx]));simpa using this
theorem lT{w:World}:∀{cs:List Value} {xs:List (List UInt8)} {f:List Nat},Rd w cs (Aq (xs.map DF)) f-> ∀s∈xs,s.length<=9223372036854775807
 |cs,[],f,_=>by simp
 |cs,x::xs,f,h=>by
  have e:Aq ((x::xs).map DF)= .str x::Aq (xs.map DF):=by simp[Aq,DF,AV.cells]
  rw[e]at h;cases h with
  |str a h=>
   intro s hs;rcases Ae.1 hs with rfl|hs
   ·simpa using a
   ·exact lT h s hs
theorem vK[DecidableEq α](zs:List α):∀s∈Lib.compact zs,s∈zs:=by
 intro s hs;unfold Lib.compact Lib.compactUpTo at hs;obtain⟨j,hj,rfl⟩:=List.mem_map.1 hs;have AG:j<zs.length:=by simpa using(List.mem_filter.1 hj).1
 rw[getElem!_pos _ j (by simpa using AG)];simp
theorem kU{w:World}:∀{cs:List Value} {xs:List (List UInt8)} {f:List Nat},Rd w cs (Aq (xs.map DF)) f-> ∃bs:List ByteArray,cs=bs.map Value.string/\bs.map (·.data.toList)=xs
 |cs,[],f,h=>by obtain⟨rfl,_⟩:=Pt (by simpa[Aq]using h);exact⟨[],rfl,rfl⟩
 |cs,x::xs,f,h=>by
  have h':Rd w cs (.str x::Aq (xs.map DF)) f:=by simpa[Aq]using h
  obtain⟨b,us,rfl,rfl,_,h2⟩:=eR h';obtain⟨bs,rfl,rfl⟩:=kU h2;exact⟨b::bs,rfl,rfl⟩
theorem wA[DecidableEq α]{av:α->AV}{dz:α}{Q:α->Prop}(Da:∀{w:World} {cs:List Value} {xs:List α} {f:List Nat},Rd w cs (Aq (xs.map av)) f->cs=xs.map enc/\ ∀s∈xs,Q s)
  (hwr:∀{w:World} (r:List α),(∀s∈r,Q s)->Rd w (r.map enc) (Aq (r.map av)) []) (ha:∀x,(av x).cells.length=1) (ho:∀x,(enc x).oneCell'=true) {f t el:Nat} (hk:sW Tryz.prog B3 f t el 1=true) (B5:∀r,IT Tryz.prog B3 f r=true)
  (hC:∀(blk cap:Nat) (zs:List α) (w:World),Holds enc w blk 0 zs.toArray->zs.length<=9223372036854775807->zs.length<=cap->
   Calls Tryz.prog f #[.slice (some ⟨blk,0,none⟩) zs.length cap] w λe w'=>e= .returned (.slice (some ⟨blk,0,none⟩) (Lib.compact zs).length cap)/\ ∃q,w'=putRow enc (Sort.ahead w q) blk 0 (Lib.compact zs++List.replicate (zs.length-(Lib.compact zs).length) dz).toArray)
  (h0:∀a cap w,Calls Tryz.prog f #[.slice a 0 cap] w λe w'=>e= .returned (.slice a 0 cap)/\w'=w)
  (xs:List α):Cl Tryz.prog B3 f [.sl (xs.map av)] (.sl ((Lib.compact xs).map av)):=by
 unfold sW at hk;split at hk
 ·rename_i fn s hf hs;simp only[Ab,Bf,AK]at hk;obtain⟨⟨⟨⟨⟨⟨⟨⟨⟨⟨⟨⟨g1,g2⟩,g3⟩,g4⟩,g5⟩,g6⟩,g7⟩,g8⟩,g9⟩,g10⟩,g11⟩,g12⟩,g13⟩:=hk;obtain⟨hm,hr,Cz,B0⟩:s.bz=[.va [true]]/\s.res=[true]/\s.ft=[]/\s.lo=[]:=by
   split at g1
   ·rename_i a b c d;exact⟨a,b,c,d⟩
   ·cases g1
  have Aw:=Lib.compact_length_le xs;unfold Cl;rw[if_pos (KQ f s hs)];refine⟨s,hs,fn,hf,g2,g3,by have:=B5 ((Lib.compact xs).map av);unfold IT at this;rw[hf,hs]at this;exact this,by simp[g6,g13],by simp[Cz],λw vs rf lf A4 Ah hd _ B7 D1=> ?_⟩;rw[g4,Cz,AE,hm,B0]at Ah;cases Ah with
  |lent h _ _ _=>cases h
  | @cons _ _ _ _ v1 vs1 _ _ f1 k1 rf1 lf1 BM a1 Ah=>
   cases Ah;obtain⟨rfl,r1⟩:=Zz g7 g8 g9 g10 a1;obtain⟨xs',cs,e1,p0,p1,p2,p3,p4,p5⟩:=r1.jm;cases e1;rw[g11]at p0 p1 p2 p5;have fin:∀{w':World} {v':Value} {top:List Nat},Mod k1 w w'->CZ w' el 1 v' (.sl ((Lib.compact xs).map av)) top []->top.Nodup->(∀b∈top,b∈k1/\b<w'.heap.size)->fS Tryz.prog fn s w [v1] ([]++ []) (k1++ []) (.sl ((Lib.compact xs).map av)) v' w':=by
    intro w' v' top Bp Bd Ek Ci;refine⟨⟨_,[],[],top,[],[],rfl,?_,?_,by simpa using Ek,?_,by simp⟩,Bp.weaken λb hb=> .inl (by simp[hb])⟩
    ·rw[g5];show D6 Tryz.prog w' t s.res _ _ [] top;unfold D6;rw[hr,if_pos g12];refine⟨[v'],[.sl ((Lib.compact xs).map av)],by rw[g7];simp,?_⟩;rw[g8];have:=Cr.own (P:=Tryz.prog) (t:=t) (ts:=[]) (fl:=[true]) (us:=[]) (ys:=[]) (rf:=[]) (hs:=[]) rfl g9 (.inl ⟨g10,rfl⟩) (by rw[g11];exact Bd) .nil;simpa using this
    ·rw[g4,Cz,AE,hm];exact .va rfl .nil
    ·intro b hb;simp only[AE]at hb;exact⟨.inl (by simpa using(Ci b hb).1),(Ci b hb).2⟩
   rcases p5 with⟨Ej,rfl,q,rfl⟩|⟨g,cap,C,rfl,⟨z1,z2,z3,z4,z5⟩,rfl⟩
   ·have Ck:xs=[]:=by simpa using Ej
    subst Ck;refine(h0 q 0 w).mono ?_;rintro e w' ⟨rfl,rfl⟩;have:Lib.compact ([]:List α)=[]:=rfl;exact⟨_,rfl,fin (Mod.refl _ _) ⟨[],by rw[this];rfl,by simp,by omega, .inl ⟨rfl,⟨q,rfl⟩,rfl,rfl⟩⟩ (by simp) (by simp)⟩
   ·rw[List.length_map]at z1 z5;have P0:=Dp z3;have BW:∀o,w.cell? ⟨g,o,none⟩=C[o]?:=ZW z3;have Bx:cs=xs.map enc:=(Da p3).1;have hH:Holds enc w g 0 xs.toArray:=by
     intro j hj;have Oi:j<xs.length:=by simpa using hj
     refine⟨?_,Y5 z3⟩;rw[BW,Nat.zero_add];have e1:C[j]?=cs[j]?:=by rw[z5,List.getElem?_take,if_pos (by omega)];simp
     rw[e1,Bx,List.getElem?_map,Bg Oi,getElem!_pos _ j hj];simp
    have hc:=hC g cap xs w hH (by unfold maxLen at z2;omega) z1;rw[List.length_map]at fin ⊢;refine hc.mono ?_;rintro e w' ⟨rfl,q,rfl⟩;have EN:=vL (enc:=enc) (q:=q) (d:=(Lib.compact xs++List.replicate (xs.length-(Lib.compact xs).length) dz).toArray) z3;refine⟨_,rfl,fin (top:=[g]) wQ ?_ (by simp) (λb hb=>by rw[List.mem_singleton]at hb;subst hb;exact⟨by simp,Dp EN⟩)⟩;have BY:=vU (enc:=enc) C (Lib.compact xs) (List.replicate (xs.length-(Lib.compact xs).length) dz) (by rw[List.length_replicate,z4];omega);refine⟨_,rfl,λy hy=> ?_,by omega, .inr ⟨g,cap,_,by simp,by rw[List.length_map];omega,z2,EN,by simp[Go.Sort.putCells,z4],rfl,?_,?_⟩⟩
    ·obtain⟨x,_,rfl⟩:=List.mem_map.1 hy;exact ha x
    ·rw[List.length_map,Nat.mul_one,BY];intro u hu;obtain⟨x,_,rfl⟩:=List.mem_map.1 hu;exact ho x
    ·rw[List.length_map,Nat.mul_one,BY];exact hwr _ λs hs=>(Da p3).2 s (vK xs s hs)
 ·cases hk
noncomputable def Qr(xs:List (List UInt8)):Option (List (List UInt8)):=some (Lib.compact xs)
theorem zg0(a0 r:List (List UInt8))(h:Qr a0=some r):Cl Tryz.prog B3 229 [.sl (a0.map DF)] (.sl (r.map DF)):=by cases h;exact wA (enc:=encStr) (av:=DF) (dz:=[]) (λh=>by obtain⟨bs,b1,b2⟩:=kU h;exact⟨by rw[b1,<-b2,List.map_map];exact List.map_congr_left λb _=>(sD b).symm,lT h⟩) (λr h=>oY r h) (λ_=>rfl) (λ_=>rfl) (t:=24) (el:=9) (by kernel_rfl) (λ_=>by kernel_rfl) (λblk cap zs w hH h1 h2=>Tryz.slices_Compact_string blk 0 cap zs w hH h1 h2) (λa cap w=>Tryz.slices_Compact_string_empty a cap w) a0
end Go.Proofs.YtalagilebkaegaaGreat
end
section
namespace Go.Proofs.YtalagilebkaegaaGreat
open Go.RowKit Go.Sort
set_option maxRecDepth 100000
def tA(P:Program)(sg:BZ)(f:Nat)(t el K:Nat):Bool:=
 match P.funcs[f]?,sg f with
 |some fn,some s=>(match s.bz,s.res,s.ft,s.lo with
  | [.mu [true]],[],[],[]=>true
  |_,_,_,_=>false)&&fn.body.isSome&& !(fn.name== "runtime.NumGoroutine")&&fn.params.toList==[t]&&(Dv fn s)==[]&&fn.nfree==0&& !Ao P t&&A8 P t==[t]&&CR P t==some el&&Ca P el&&P.cellsOf el==K&&fn.params.size==1
 |_,_=>false
theorem zzo{w:World}{b q:Nat}{d:Array (List UInt8)}{C:Array Value}{el:TypeId}{os:Array Obj}(h:w.heap[b]?=some (.cells C el (0,0))):
  (grow (putRow encStr (Sort.ahead w q) b 0 d) os).heap[b]?=some (.cells (Go.Sort.putCells encStr 0 d C) el (0,0)):=by
 have h1:=vL (enc:=encStr) (q:=q) (d:=d) h;show((putRow encStr (Sort.ahead w q) b 0 d).heap++os)[b]?=_;rw[Array.getElem?_append_left (Dp h1),h1]
theorem zCv{w:World}{b q:Nat}{d:Array (List UInt8)}{os:Array Obj}:Mod [b] w (grow (putRow encStr (Sort.ahead w q) b 0 d) os):=by
 have h:=wQ (enc:=encStr) (w:=w) (b:=b) (q:=q) (d:=d);have hs:=h.size;refine⟨h.os,h.tape,h.output,?_,λj hj hn=> ?_⟩
 ·show w.heap.size<=((putRow encStr (Sort.ahead w q) b 0 d).heap++os).size;simp only[Array.size_append];omega
 ·show((putRow encStr (Sort.ahead w q) b 0 d).heap++os)[j]?=_;rw[Array.getElem?_append_left (by omega)];exact h.block j hj hn
def GA(xs:List (List UInt8)):List (List UInt8):=xs.mergeSort λx y=>decide (x<=y)
theorem wT(xs:List (List UInt8)):(GA xs).Perm xs:=List.mergeSort_perm _ _
theorem zy2{f t el:Nat}(hk:tA Tryz.prog B3 f t el 1=true)
  (hC:∀(blk cap:Nat) (zs:List (List UInt8)) (w:World),Holds encStr w blk 0 zs.toArray->blk<w.heap.size->zs.length<4611686018427387904->
   Calls Tryz.prog f #[.slice (some ⟨blk,0,none⟩) zs.length cap] w λe w'=>e= .returned (.tuple #[])/\ ∃n os,w'=grow (putRow encStr (Sort.ahead w n) blk 0 (zs.mergeSort λx y=>decide (x<=y)).toArray) os)
  (h0:∀a cap w,Calls Tryz.prog f #[.slice a 0 cap] w λe w'=>e= .returned (.tuple #[])/\w'=w)
  (xs:List (List UInt8)) (hb:xs.length<4611686018427387904):Cl Tryz.prog B3 f [.sl (xs.map DF)] (.tup [.tup [], .sl ((GA xs).map DF)]):=by
 unfold tA at hk;split at hk
 ·rename_i fn s hf hs;simp only[Ab,Bf,AK]at hk;obtain⟨⟨⟨⟨⟨⟨⟨⟨⟨⟨⟨g1,g2⟩,g3⟩,g4⟩,g5⟩,g6⟩,g7⟩,g8⟩,g9⟩,g10⟩,g11⟩,g13⟩:=hk;obtain⟨hm,hr,Cz,B0⟩:s.bz=[.mu [true]]/\s.res=[]/\s.ft=[]/\s.lo=[]:=by
   split at g1
   ·rename_i a b c d;exact⟨a,b,c,d⟩
   ·cases g1
  have hp:=wT xs;have Gm:=hp.length_eq;unfold Cl;rw[if_pos (KQ f s hs)];refine⟨s,hs,fn,hf,g2,g3,?_,by simp[g6,g13],by simp[Cz],λw vs rf lf A4 Ah hd _ B7 D1=> ?_⟩
  ·unfold Ns Uh;rw[g4,g5,Cz,AE,hm];simp[BJ,Wa,Ib]
  rw[g4,Cz,AE,hm,B0]at Ah;cases Ah with
  |lent h _ _ _=>cases h
  | @cons _ _ _ _ v1 vs1 _ _ f1 k1 rf1 lf1 BM a1 Ah=>
   cases Ah;obtain⟨rfl,r1⟩:=Zz g7 g8 g9 g10 a1;obtain⟨xs',cs,e1,p0,p1,p2,p3,p4,p5⟩:=r1.jm;cases e1;rw[g11]at p0 p1 p2 p5;have IC:(xs.map DF).length=xs.length:=by simp
   rcases p5 with⟨Ej,rfl,q,rfl⟩|⟨g,cap,C,rfl,⟨z1,z2,z3,z4,z5⟩,rfl⟩
   ·have Ck:xs=[]:=by simpa using Ej
    subst Ck;have hS0:GA []=[]:=by simpa using Gm
    refine(h0 q 0 w).mono ?_;rintro e w' ⟨rfl,rfl⟩;refine⟨_,rfl,⟨⟨.tup [],[.sl []],[],[],[],[],by simp[hS0],?_,?_,by simp,by simp,by simp⟩,Mod.refl _ _⟩⟩
    ·rw[g5];exact⟨[],[],rfl,rfl, .nil⟩
    ·rw[g4,Cz,AE,hm];have Gf:Fq Tryz.prog w' (A8 Tryz.prog t) [true] [.slice q 0 0] [.sl []] [] []:=by
      rw[g8];have:=Fq.own (P:=Tryz.prog) (w:=w') (t:=t) (ts:=[]) (fl:=[true]) (us:=[]) (ys:=[]) rfl g9 (.inl ⟨g10,rfl⟩) (y:= .sl []) (u:= .slice q 0 0) (top:=[]) (by rw[g11];exact⟨[],rfl,by simp,p0, .inl ⟨rfl,⟨q,rfl⟩,rfl,rfl⟩⟩) .nil;simpa using this
     have:=DL.mu (P:=Tryz.prog) (w:=w') (t:=t) (ts:=[]) (ms:=[.mu [true]]) (own:=[true]) (v:= .slice q 0 0) (vs:=[]) (us:=[.slice q 0 0]) (ys:=[.sl []]) (y:= .sl []) (bs:=[]) (f:=[]) (o1:=[]) (o:=[]) rfl (by rw[g7];simp) Gf .nil;simpa using this
   ·rw[List.length_map]at z1 z5;obtain⟨bs,b1,b2⟩:=kU p3;have BW:∀o,w.cell? ⟨g,o,none⟩=C[o]?:=ZW z3;have Bx:cs=xs.map encStr:=by
     rw[b1,<-b2,List.map_map];exact List.map_congr_left λb _=>(sD b).symm
    have hH:Holds encStr w g 0 xs.toArray:=by
     intro j hj;have Oi:j<xs.length:=by simpa using hj
     refine⟨?_,Y5 z3⟩;rw[BW,Nat.zero_add];have e1:C[j]?=cs[j]?:=by rw[z5,List.getElem?_take,if_pos (by omega)];simp
     rw[e1,Bx,List.getElem?_map,Bg Oi,getElem!_pos _ j hj];simp
    have hc:=hC g cap xs w hH (Dp z3) hb;rw[List.length_map];refine hc.mono ?_;rintro e w' ⟨rfl,n,os,rfl⟩;have EN:=zzo (q:=n) (os:=os) (d:=(GA xs).toArray) z3;have Bp:=zCv (w:=w) (b:=g) (q:=n) (os:=os) (d:=(GA xs).toArray);have BY:=vU (enc:=encStr) C (GA xs) [] (by rw[Gm,z4];simpa using z1);rw[AE,Gm]at BY;change Mod [g] w (grow (putRow encStr (Sort.ahead w n) g 0 (xs.mergeSort λx y=>decide (x<=y)).toArray) os)at Bp;change (grow (putRow encStr (Sort.ahead w n) g 0 (xs.mergeSort λx y=>decide (x<=y)).toArray) os).heap[g]?=_ at EN;generalize grow (putRow encStr (Sort.ahead w n) g 0 (xs.mergeSort λx y=>decide (x<=y)).toArray) os=w' at Bp EN;have Bd:CZ w' el 1 (.slice (some ⟨g,0,none⟩) xs.length cap) (.sl ((GA xs).map DF)) [g] []:=by
     refine⟨_,rfl,λy hy=> ?_,by omega, .inr ⟨g,cap,_,by simp[Gm],by rw[List.length_map,Gm];omega,z2,EN,by simp[Go.Sort.putCells,z4],rfl,?_,?_⟩⟩
     ·obtain⟨x,_,rfl⟩:=List.mem_map.1 hy;rfl
     ·rw[List.length_map,Gm,Nat.mul_one,BY];intro u hu;obtain⟨x,_,rfl⟩:=List.mem_map.1 hu;rfl
     ·rw[List.length_map,Gm,Nat.mul_one,BY];exact oY _ λs hs=>lT p3 s (hp.mem_iff.1 hs)
    refine⟨_,rfl,⟨⟨.tup [],[.sl ((GA xs).map DF)],[],[],[],[g],by simp,?_,?_,by simp,?_,by simp⟩,Bp.weaken λb hb=> .inl (by simpa using hb)⟩⟩
    ·rw[g5];exact⟨[],[],rfl,rfl, .nil⟩
    ·rw[g4,Cz,AE,hm];have Gf:Fq Tryz.prog w' (A8 Tryz.prog t) [true] [.slice (some ⟨g,0,none⟩) xs.length cap] [.sl ((GA xs).map DF)] [] [g]:=by
      rw[g8];have:=Fq.own (P:=Tryz.prog) (w:=w') (t:=t) (ts:=[]) (fl:=[true]) (us:=[]) (ys:=[]) rfl g9 (.inl ⟨g10,rfl⟩) (y:= .sl ((GA xs).map DF)) (u:= .slice (some ⟨g,0,none⟩) xs.length cap) (top:=[g]) (by rw[g11];exact Bd) .nil;simpa using this
     have:=DL.mu (P:=Tryz.prog) (w:=w') (t:=t) (ts:=[]) (ms:=[.mu [true]]) (own:=[true]) (v:= .slice (some ⟨g,0,none⟩) xs.length cap) (vs:=[]) (us:=[.slice (some ⟨g,0,none⟩) xs.length cap]) (ys:=[.sl ((GA xs).map DF)]) (y:= .sl ((GA xs).map DF)) (bs:=[]) (f:=[]) (o1:=[g]) (o:=[]) rfl (by rw[g7];simp) Gf .nil;simpa using this
    ·intro b hb;simp only[List.nil_append,List.mem_singleton]at hb;subst hb;exact⟨.inl (by simp),Dp EN⟩
 ·cases hk
noncomputable def Qt(xs:List (List UInt8)):Option (Unit × List (List UInt8)):=AL (xs.length<4611686018427387904) (some ((),GA xs))
theorem zia(a0:List (List UInt8))(r:Unit × List (List UInt8))(h:Qt a0=some r):Cl Tryz.prog B3 228 [.sl (a0.map DF)] (.tup [.tup [], .sl (r.2.map DF)]):=by obtain⟨hb,h⟩:=F6 h;cases h;exact zy2 (t:=24) (el:=9) (by kernel_rfl) (λblk cap zs w hH h1 h2=>Tryz.slices_Sort_string blk 0 cap zs w hH h1 h2) (λa cap w=>Tryz.slices_Sort_string_none a cap w) a0 hb
end Go.Proofs.YtalagilebkaegaaGreat
end

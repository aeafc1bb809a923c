/- Parts of a proof, joined: DA, DB, MA, MB, OB, OG, QA, QO, MC, MD, QT, TF, QL, HB, SP, HL, IA, IC, ID, IE, IF, IG, IB, CM, SS. -/
import Derived.Test.YtlmjpjceiefpoaaGreatK6
import Derived.Test.YtlmjpjceiefpoaaGreatProg
import Derived.Test.YtlmjpjceiefpoaaGreatChecked
import Derived.Shelf.Strings.Builder1
import Derived.Shelf.Strings.Builder2
import Derived.Shelf.Strings.OnBuilder
import Derived.Shelf.Small.Bits
import Derived.Shelf.Small.Strs
import Derived.Shelf.Small.Wraps
import Derived.Shelf.Strings.BuilderF
import Derived.Shelf.Strings.BuilderK
import Derived.Shelf.Strings.Builder2Cap
import Derived.Shelf.Strconv.Itoa0
import Derived.Shelf.Strings.Search1
import Derived.Shelf.Strings.Search2
import Derived.Shelf.Strings.Cut
import Derived.Shelf.LaysM
import Derived.Shelf.Strings.Shaped
import Derived.Shelf.Sort.Plain
import Derived.Shelf.Strings.Prefix
import Derived.Shelf.Strings.BuilderCap
import Derived.Ground.Names2Prog
import Derived.Shelf.Slices.Clone
import Derived.Shelf.Slices.CompactS
import Derived.Shelf.Slices.SearchI
import Derived.Shelf.Slices.Cells
import Derived.Shelf.Slices.In.SortNone
import Derived.Ground.SlgnProg
import Derived.Shelf.SlicesE.Clone
import Derived.Laws.CopyRow
import Derived.Lib.AppendZerosOnto
import Derived.Lib.Overlaps
import Derived.Lib.SliceRun
import Derived.Lib.SlicesDelete
import Derived.Shelf.RegionOpenPlain
import Derived.Deep.RegionLaw
import Derived.Lib.RowBridge
set_option linter.unusedVariables false
set_option linter.unusedSimpArgs false
section
namespace Go.Proofs.YtlmjpjceiefpoaaGreat
open Go.RowKit
noncomputable def flT(t:TypeId):List Bool:=(Bc Tryz.prog t).map λu=>match CK Tryz.prog u with|some e=>Ch Tryz.prog e|none=>false
noncomputable def zPi(u:TypeId):List Bool:=flT u
noncomputable def zQS(fn:Func):IN:={c8:=fn.params.toList.map λt=>match LQ Tryz.prog t with|some u=> .bx (zPi u) (zPi u)|none=> .ro,res:=fn.resultTypes.toList.flatMap flT}
noncomputable def zPu(f:Nat):Option IN:=
 match f with
 |3=>some {c8:=[],res:=[false],dp:=true}
 |5=>some {c8:=[.ro, .ro, .ro],res:=[]}
 |6=>some {c8:=[],res:=[false,true,false,true,true,false,false,true,true,true,true,true,true,true],dp:=true}
 |10=>some {c8:=[.mu [false,true,false,true,true,false,false,true,true,true,true,true,true,true], .ro],res:=[],dp:=true}
 |11=>some {c8:=[.mu [true], .ro],res:=[]}
 |23=>some {c8:=[.ro, .ro],res:=[]}
 |24=>some {c8:=[],res:=[true],dp:=true}
 |26=>some {c8:=[],res:=[true],dp:=true}
 |27=>some {c8:=[],res:=[false,false,true,true,true,true,true,true,true],dp:=true}
 |36=>some {c8:=[.mu [true]],res:=[]}
 |41=>some {c8:=[.mu [true], .ro],res:=[],dp:=true}
 |42=>some {c8:=[.mu [true], .ro],res:=[]}
 |43=>some {c8:=[.mu [true], .ro],res:=[],dp:=true}
 |44=>some {c8:=[.mu [false,false,true,true,true,true,true,true,true], .ro],res:=[],dp:=true}
 |63=>some {c8:=[.ro],res:=[]}
 |72=>some {c8:=[],res:=[true],dp:=true}
 |73=>some {c8:=[],res:=[true],dp:=true}
 |74=>some {c8:=[],res:=[true],dp:=true}
 |75=>some {c8:=[],res:=[true],dp:=true}
 |83=>some {c8:=[.ro],res:=[]}
 |85=>some {c8:=[.va [true], .ro],res:=[true]}
 |92=>some {c8:=[.mu [true], .ro, .ro, .ro],res:=[]}
 |101=>some {c8:=[.mu [true], .ro],res:=[]}
 |102=>some {c8:=[.mu [true], .ro],res:=[]}
 |103=>some {c8:=[.mu [true], .ro],res:=[],dp:=true}
 |104=>some {c8:=[.mu [true], .ro],res:=[],dp:=true}
 |105=>some {c8:=[.mu [true], .ro],res:=[],dp:=true}
 |106=>some {c8:=[.mu [true], .ro],res:=[],dp:=true}
 |132=>some {c8:=[.ro, .ro],res:=[]}
 |139=>some {c8:=[],res:=[true,false,false],dp:=true}
 |165=>some {c8:=[.ro],res:=[]}
 |170=>some {c8:=[.va [true], .ro, .va [true]],res:=[true]}
 |179=>some {c8:=[.mu [true], .ro, .ro],res:=[]}
 |180=>some {c8:=[.mu [true], .ro, .ro],res:=[]}
 |181=>some {c8:=[.mu [true], .ro, .ro],res:=[]}
 |182=>some {c8:=[.mu [true], .ro, .ro],res:=[]}
 |183=>some {c8:=[.mu [true], .ro, .ro],res:=[]}
 |184=>some {c8:=[.mu [true], .ro, .ro],res:=[]}
 |186=>some {c8:=[.mu [true], .ro, .ro, .ro],res:=[]}
 |187=>some {c8:=[.mu [true], .ro, .ro, .ro],res:=[]}
 |198=>some {c8:=[.mu [true], .ro],res:=[],dp:=true}
 |199=>some {c8:=[.mu [true], .ro],res:=[]}
 |200=>some {c8:=[.mu [true], .ro],res:=[]}
 |201=>some {c8:=[.mu [true], .ro],res:=[]}
 |224=>some {c8:=[.ro],res:=[]}
 |227=>some {c8:=[],res:=[true],dp:=true}
 |259=>some {c8:=[.ro, .ro, .bx [true] [true]],res:=[],ft:=[1000000116]}
 |262=>some {c8:=[.ro],res:=[]}
 |276=>some {c8:=[.mu [true], .ro, .ro, .ro],res:=[]}
 |279=>some {c8:=[.mu [true], .ro, .bx [false] [false]],res:=[]}
 |280=>some {c8:=[.mu [true], .ro, .ro, .ro, .bx [false] [false]],res:=[]}
 |287=>some {c8:=[.mu [true], .ro],res:=[],dp:=true}
 |303=>some {c8:=[.ro, .ro],res:=[]}
 |304=>some {c8:=[],res:=[false,true,false],dp:=true}
 |324=>some {c8:=[.ro, .ro],res:=[],dp:=true}
 |331=>some {c8:=[.mu [true], .ro, .ro, .bx [false] [false]],res:=[]}
 |335=>some {c8:=[.mu [true], .ro],res:=[]}
 |340=>some {c8:=[.ro, .ro],res:=[]}
 |344=>some {c8:=[.ro, .ro, .ro],res:=[true,false],dp:=true,wn:=true}
 |348=>some {c8:=[],res:=[true],dp:=true}
 |358=>some {c8:=[.ro],res:=[false,true,true,true],dp:=true}
 |360=>some {c8:=[.ro, .ro],res:=[],dp:=true}
 |363=>some {c8:=[.va [true], .ro, .va [true]],res:=[true]}
 |365=>some {c8:=[.mu [true]],res:=[]}
 |372=>some {c8:=[.ro],res:=[true],dp:=true}
 |384=>some {c8:=[.ro],res:=[true],dp:=true}
 |390=>some {c8:=[.ro, .ro, .ro],res:=[true,false],dp:=true}
 |391=>some {c8:=[.va [true], .ro, .ro],res:=[true]}
 |392=>some {c8:=[.va [true], .ro, .va [true]],res:=[true]}
 |399=>some {c8:=[.ro],res:=[true]}
 |414=>some {c8:=[.ro],res:=[]}
 |418=>some {c8:=[.va [true], .ro, .va [true]],res:=[true]}
 |422=>some {c8:=[.ro, .ro],res:=[false],lo:=[false,true]}
 |424=>some {c8:=[.va [true]],res:=[true]}
 |436=>some {c8:=[.mu [true]],res:=[],lo:=[true]}
 |441=>some {c8:=[.mu [true]],res:=[]}
 |_=>none
noncomputable def zRp(f:Nat):Option IN:=match Tryz.prog.funcs[f]? with
 |some fn=>some ((zPu f).getD (zQS fn))
 |none=>none
noncomputable def BQ:BW:={f:=zRp}
theorem zQt:Tryz.prog.follows .mixedOrders=true:=by kernel_rfl
theorem zRQ:Tryz.prog.funcs.size<1000000:=by
 have:(decide (Tryz.prog.funcs.size<1000000))=true:=by kernel_rfl
 exact of_decide_eq_true this
theorem Kw(f:Nat)(s:IN)(h:BQ f=some s):f<1000000:=by
 simp only[BQ]at h;unfold zRp at h;split at h
 ·rename_i fn hf;have:=(Array.getElem?_eq_some_iff.1 hf).1;exact Nat.lt_trans this zRQ
 ·cases h
def bF(P:Program)(sg:BW)(f:Nat)(xs:List AV)(r:AV):Bool:=
 match P.funcs[f]?,sg f with
 |some fn,some s=> !(fn.name== "runtime.NumGoroutine")&&Nq P fn s r&&xs.length==fn.params.size+fn.nfree
 |_,_=>false
abbrev Den(t:Tr)(r:AV)(xs:List AV):Prop:=t.den (Cp Tryz.prog BQ) (λr'=>r'=r) (λ_ _ _ _=>False) [] xs
theorem Ee{f:Nat}{t:Tr}{xs:List AV}{r:AV}(hc:W6 Tryz.prog BQ f=some t)(hk:bF Tryz.prog BQ f xs r=true)(hd:Den t r xs):Cp Tryz.prog BQ f xs r:=by
 unfold bF at hk;split at hk
 ·rename_i fn s hf hs;simp only[Ac,Bk,Az]at hk;unfold Cp;rw[if_pos (Kw f s hs)];exact⟨s,hs,zLt zQt Kw hf hs hk.1.1 hc hk.1.2 hk.2 hd⟩
 ·cases hk
section
variable {Rt:Nat->List AV->AV->Prop} {R:AV->Prop} {L:LK} {js:List JK} {ρ:List AV}
theorem zL3{i:EL}{b k:Tr}(hL:Ly L)(I:Nat->List AV->Prop){m:Nat}(h0:I m (i.den ρ))(G2:∀m vs,I m vs->b.den Rt R L ((λus=> ∃m',m'<m/\I m' us)::(λus=>k.den Rt R L js (ρ++us))::js) (ρ++vs)):(Tr.loop i b k).den Rt R L js ρ:=by
 have hb:∀W W':JK,(∀vs,W vs->W' vs)-> ∀vs,b.den Rt R L (W::(λus=>k.den Rt R L js (ρ++us))::js) (ρ++vs)->b.den Rt R L (W'::(λus=>k.den Rt R L js (ρ++us))::js) (ρ++vs):=
  λW W' hW vs hv=>b.iw hL hv (.cons hW (ED.refl _))
 have mono:∀n vs,Kz (λW vs=>b.den Rt R L (W::(λus=>k.den Rt R L js (ρ++us))::js) (ρ++vs)) n vs-> ∀n',n<=n'->Kz (λW vs=>b.den Rt R L (W::(λus=>k.den Rt R L js (ρ++us))::js) (ρ++vs)) n' vs:=by
  intro n
  induction n with
  |zero=>intro vs h;exact h.elim
  |succ n ih=>
   intro vs h n' hn;cases n' with
   |zero=>omega
   |succ n'=>exact hb _ _ (λus hu=>ih us hu n' (by omega)) vs h
 have key:∀m vs,I m vs->Kz (λW vs=>b.den Rt R L (W::(λus=>k.den Rt R L js (ρ++us))::js) (ρ++vs)) (m+1) vs:=by
  intro m
  induction m using Nat.strongRecOn with
  |_ m ih=>intro vs hI;exact hb _ _ (λus ⟨m',hm,hu⟩=>mono _ _ (ih m' hm us hu) m (by omega)) vs (G2 m vs hI)
 exact⟨m+1,key m _ h0⟩
theorem zx8:Ly (λ_ _ _ _=>False):=λ_ _ _ _ _ _ h=>h
end
@[simp] theorem zRk(ρ:List AV):Bt ρ []↔True:=⟨λ_=>trivial,λ_=>Fy ρ⟩
@[simp] theorem zQZ(ρ:List AV)(x:E)(b:Bool)(gs:Gd):Bt ρ ((x,b)::gs)↔x.den ρ= .bool b/\Bt ρ gs:=
 ⟨λh=>⟨h (x,b) (by simp),λg hg=>h g (by simp[hg])⟩,λh g hg=>by rcases Ag.1 hg with rfl|hg;exact h.1;exact h.2 g hg⟩
attribute [simp] E.den EL.den Cn.den AV.fld AV.proj AV.deref AV.len AV.slen AV.idx AV.nth AV.ig AV.kr AV.conv AV.bin AV.bbin AV.sbin AV.app AV.fu AV.rep
@[simp] theorem zPH(cs:List AV):(AV.agg cs).cells=cs:=rfl
@[simp] theorem zQo(k:IntKind)(n:Int):(AV.int k n).cells=[.int k n]:=rfl
@[simp] theorem zO7(b:Bool):(AV.bool b).cells=[.bool b]:=rfl
@[simp] theorem zPM(s:List UInt8):(AV.str s).cells=[.str s]:=rfl
@[simp] theorem zQz(xs:List AV):(AV.sl xs).cells=[.sl xs]:=rfl
@[simp] theorem zO9(k:IntKind)(n:Int):(AV.int k n).scalar=true:=rfl
@[simp] theorem zO0(b:Bool):(AV.bool b).scalar=true:=rfl
@[simp] theorem zO5(s:List UInt8):(AV.str s).scalar=true:=rfl
@[simp] theorem zQ9(b c d:Bool):AV.cond (.bool b) (.bool c) (.bool d)= .bool (bif b then c else d):=by cases b<;>rfl
theorem zNx{y:AV}(h:y.scalar=true):y.cells=[y]:=by cases y<;>first|rfl|simp[AV.scalar]at h
theorem Cv{n:Int}(h1: -9223372036854775808<=n)(h2:n<=9223372036854775807):IntKind.i64.wrap n=n:=by rw[IntKind.wrap_i64];omega
end Go.Proofs.YtlmjpjceiefpoaaGreat
end
section
namespace Go.Proofs.YtlmjpjceiefpoaaGreat
open Go.RowKit
section
variable {Rt:Nat->List AV->AV->Prop} {R:AV->Prop} {L:LK} {js:List JK} {ρ:List AV}
theorem He{gs:Gd}{c:Cn}{k:Tr}(h:Bt ρ gs->c.den ρ)(hk:k.den Rt R L js ρ):(Tr.dn gs c k).den Rt R L js ρ:=⟨h,hk⟩
theorem zMD{gs:Gd}{f:Nat}{args:EL}{k:Tr}{r:AV}(h:Bt ρ gs->Rt f (args.den ρ) r)(hk:k.den Rt R L js (ρ++ [r])):(Tr.call gs (.inl f) args k).den Rt R L js ρ:=⟨r,h,hk⟩
theorem zDn{gs:Gd}{x:E}{args:EL}{k:Tr}{r:AV}(h:Bt ρ gs-> ∃g caps,x.den ρ= .fn g caps/\Rt (1000000+g) (args.den ρ++caps) r/\ ∀y∈r.cells,y.scalar=true)(hk:k.den Rt R L js (ρ++ [r])):(Tr.call gs (.inr x) args k).den Rt R L js ρ:=⟨r,h,hk⟩
theorem Kt{c:E}{a b:Tr}{t:Bool}(h:c.den ρ= .bool t)(ha:t=true->a.den Rt R L js ρ)(hb:t=false->b.den Rt R L js ρ):(Tr.ite c a b).den Rt R L js ρ:=⟨t,h,ha,hb⟩
theorem Nt{r:E}(h:R (r.den ρ)):(Tr.ret r).den Rt R L js ρ:=h
theorem zGf{es:EL}{j:JK}(h:j (es.den ρ)):(Tr.jmp 0 es).den Rt R L (j::js) ρ:=h
theorem zGk{es:EL}{i j:JK}(h:j (es.den ρ)):(Tr.jmp 1 es).den Rt R L (i::j::js) ρ:=h
end
def zIr(cn:Nat)(xs:List AV):Prop:= ∀x∈xs,∃cs,x= .agg cs/\cs.length=cn
theorem zIr.at{cn:Nat}{xs:List AV}(h:zIr cn xs){q:Nat}(hq:q<xs.length):∃cs,xs[q]= .agg cs/\cs.length=cn:=h _ (Au hq)
section
variable {Rt:Nat->List AV->AV->Prop} {R:AV->Prop} {L:LK} {js:List JK} {ρ:List AV} {α β σ τ:Type}
theorem zPo{x:E}{sz:Nat}{xs:List α}(f:α->AV)(hx:x.den ρ= .sl (xs.map f))(hf:∀y,(f y).cells.length=sz):Cn.den ρ (.issl x sz):=⟨_,hx,by simp[hf]⟩
theorem zON{x:E}{sz:Nat}{xs:List α}(f:α->AV)(hx:x.den ρ= .sl (xs.map f))(hf:∀y,(f y).cells.length=sz/\ ∀z∈(f y).cells,z.scalar=true):Cn.den ρ (.flatS x sz):=⟨_,hx,by simp only[List.mem_map];rintro _ ⟨y,_,rfl⟩;exact hf y⟩
end
@[simp] def Qd(n:Int):AV:= .int .i64 n
@[simp] def avB(b:Bool):AV:= .bool b
@[simp] def CC(x:List UInt8):AV:= .str x
attribute [simp] En RJ AV.sidx AV.aeq AV.leq AV.seq AV.sk AV.fq AV.bytes AV.text
end Go.Proofs.YtlmjpjceiefpoaaGreat
end
section
namespace Go.Proofs.YtlmjpjceiefpoaaGreat
open Go.RowKit
section
variable {P:Program} {w:World}
theorem Eg.km{ts:List TypeId}{vs:List Value}{xs:List AV}{rf lf hs:List Nat}(h:Eg P w ts [] [] vs xs rf lf hs):∀(ms:List PM) (lo:List Bool),(∀m∈ms,m= .ro)->Eg P w ts ms lo vs xs rf lf hs:=by
 generalize hm:([]:List PM)=m0 at h;generalize hn:([]:List Bool)=n0 at h
 induction h with
 |nil=>intro ms lo _;exact .nil
 |lent h1 _ _ _ _=>subst hn;cases h1
 | @cons t ts ms' lo' v vs x xs f h rf lf hs Bi _ ih=>
  subst hm;subst hn;intro ms lo E9;refine .cons ?_ (ih rfl rfl ms.tail lo.tail λm hm=>E9 m (List.mem_of_mem_tail hm));have:ms.headD .ro= .ro:=by cases ms with|nil=>rfl|cons m ms=>exact E9 m (by simp)
  rw[this];exact Bi
 |free h1 _ ih=>subst hm;subst hn;intro ms lo E9;exact .free h1 (ih rfl rfl ms.tail lo.tail λm hm=>E9 m (List.mem_of_mem_tail hm))
theorem D4.km{ts:List TypeId}{ms:List PM}{vs:List Value}{Bs:List AV}{f o:List Nat}(h:D4 P w ts ms vs Bs f o)(E9:∀m∈ms,m= .ro):D4 P w ts [] vs Bs f o:=by
 have hd:∀{ms:List PM},(∀m∈ms,m= .ro)->ms.headD .ro= .ro:=by intro ms h;cases ms with|nil=>rfl|cons m ms=>exact h m (by simp)
 induction h with
 |nil=>exact .nil
 |ro _ _ ih=>exact .ro rfl (ih λm hm=>E9 m (List.mem_of_mem_tail hm))
 |va h9 _ _=>rw[hd E9]at h9;cases h9
 |mu h9 _ _ _ _=>rw[hd E9]at h9;cases h9
 |bx h9 _ _ _ _ _ _ _ _=>rw[hd E9]at h9;cases h9
end
noncomputable def tM(f:Nat)(r:AV):Bool:=
 match Tryz.prog.funcs[f]?,BQ f with
 |some fn,some s=>s.c8.all (λm=>match m with| .ro=>true|_=>false)&&s.ft.isEmpty&&(match fn.resultTypes.toList with| [t]=> !FL Tryz.prog t s.res|_=>false)&&Nq Tryz.prog fn {c8:=[],res:=[]} r
 |_,_=>false
theorem zIg{f:Nat}{xs:List AV}{r:AV}(h:Cp Tryz.prog BQ f xs r)(hp:tM f r=true):Cp Tryz.prog BQ (1000000+f) xs r:=by
 unfold tM at hp;split at hp
 ·rename_i fn s hf hs;simp only[Ac,Bd]at hp;obtain⟨⟨⟨h1,Cr⟩,h2⟩,h3⟩:=hp;have Cr:s.ft=[]:=by simpa using Cr
  have Ez:∀m∈s.c8,m= .ro:=λm hm=>by
   have:=h1 m hm;split at this
   ·rfl
   ·cases this
  unfold Cp at h ⊢;rw[if_pos (Kw f s hs)]at h;rw[if_neg (by omega),Nat.add_sub_cancel_left];obtain⟨s',A9,fn',Vz,hb,hn,_,hl,_,hc⟩:=h;rw[hs]at A9;cases A9;rw[hf]at Vz;cases Vz;rw[Cr]at hc;refine⟨fn,hf,hb,hn,h3,hl,by simp,λw vs rf lf A9 Am hd hd2 BX Ea=>(hc w vs rf lf A9 (Am.km _ _ Ez) hd hd2 BX Ea).mono ?_⟩;rintro e w' ⟨v,rfl,⟨R,Bs,f1,o1,f2,o2,e1,e2,e3,e4,e5,e6⟩,hm⟩;rw[Cr]at e3;refine⟨v,rfl,⟨R,Bs,f1,o1,f2,o2,e1,?_,e3.km Ez,e4,e5,e6⟩,hm⟩;unfold Lb at e2 ⊢;split at h2
  ·rename_i t ht;rw[ht]at e2 ⊢;simp only at e2 ⊢;unfold DM at e2 ⊢;have h2:FL Tryz.prog t s.res=false:=by simpa using h2
   rw[if_neg (by rw[h2];simp)]at e2;rw[if_neg (by simp[FL])];exact e2
  ·cases h2
 ·cases hp
section
variable {Rt:Nat->List AV->AV->Prop} {R:AV->Prop} {L:LK} {js:List JK} {ρ:List AV}
theorem zF0{i:EL}{b k:Tr}(hL:Ly L)(n:Nat)(st:Nat->List AV)(J:Nat->Prop)(hJ:J 0)(h0:i.den ρ=st 0)(hb:∀q,q<=n->J q-> ∀W:JK,(q<n->J (q+1)->W (st (q+1)))->b.den Rt R L (W::(λus=>k.den Rt R L js (ρ++us))::js) (ρ++st q)):(Tr.loop i b k).den Rt R L js ρ:=by refine zL3 hL (λm vs=> ∃q,q+m=n/\vs=st q/\J q) (m:=n) ⟨0,by omega,h0,hJ⟩ ?_;rintro m vs ⟨q,hq,rfl,hj⟩;exact hb q (by omega) hj _ λAQ Kc=>⟨m-1,by omega,q+1,by omega,rfl,Kc⟩
end
def KC(cn:Nat):Tr:=
 .dn [] (.dfd (.len (.var 0)))<|
 .loop (.cons (.int .i64 (0)) .nil) (
  .dn [] (.dfd (.bin .lss (.var 2) (.len (.var 0))))<|
  .ite (.bin .lss (.var 2) (.len (.var 0))) (
  .dn [] (.inb (.var 2) (.var 0) cn)<|
  .call [] (.inr (.var 1)) (.cons (.fld (.idx (.var 0) (.var 2)) 0 cn true) .nil)<|
  .ite (.var 3) (
   .ret (.var 2)) (
   .dn [] (.dfd (.bin .add (.var 2) (.int .i64 (1))))<|
   .jmp 0 (.cons (.bin .add (.var 2) (.int .i64 (1))) .nil))) (
  .jmp 1 .nil)) (
  .ret (.int .i64 (-1)))
def aM:Tr:=
 .dn [] (.dfd (.len (.var 0)))<|
 .loop (.cons (.int .i64 (0)) .nil) (
  .dn [] (.dfd (.bin .lss (.var 2) (.len (.var 0))))<|
  .ite (.bin .lss (.var 2) (.len (.var 0))) (
  .dn [] (.inb (.var 2) (.var 0) 1)<|
  .call [] (.inr (.var 1)) (.cons (.fld (.idx (.var 0) (.var 2)) 0 1 false) .nil)<|
  .ite (.var 3) (
   .ret (.var 2)) (
   .dn [] (.dfd (.bin .add (.var 2) (.int .i64 (1))))<|
   .jmp 0 (.cons (.bin .add (.var 2) (.int .i64 (1))) .nil))) (
  .jmp 1 .nil)) (
  .ret (.int .i64 (-1)))
def JQ{α:Type}(p:α->Option Bool):List α->Int->Option Int
 | [],_=>some (-1)
 |x::xs,i=>(p x).bind λb=>if b=true then some i else JQ p xs (i+1)
noncomputable def FK{α:Type}(xs:List α)(p:α->Option Bool):Option Int:=Ax (xs.length<=9223372036854775806) (JQ p xs 0)
noncomputable def DB{α:Type}(xs:List α)(p:α->Option Bool):Option Bool:=(FK xs p).bind λi=>some (decide (i>=0))
noncomputable def Pe{α:Type}(bytes:Nat)(xs:List α):Option (List α):=Ax ((xs.length:Int)*bytes<=140737488355328/\(xs.length:Int)<=140737488355328) (some xs)
theorem zCv{α:Type}{p:α->Option Bool}{l:List α}{r:Int}{q:Nat}(hq:q<l.length)(h:JQ p (l.drop q) q=some r):∃b,p l[q]=some b/\(b=true->r=q)/\(b=false->JQ p (l.drop (q+1)) ((q+1:Nat):Int)=some r):=by
 rw[Bw hq]at h;obtain⟨b,hb,h⟩:=RQ h;refine⟨b,hb,?_,?_⟩
 ·rintro rfl;simpa using h.symm
 ·rintro rfl;simpa using h
theorem L8{α:Type}{av:α->AV}{l:List α}{p:α->Option Bool}{cn g:Nat}{caps:List AV}{r:Int}(hs:∀x,∃cs,av x= .agg cs/\cs.length=cn)(h:FK l p=some r)(hf:∀x b,p x=some b->Cp Tryz.prog BQ (1000000+g) (av x::caps) (.bool b)):Den (KC cn) (.int .i64 r) [.sl (l.map av), .fn g caps]:=by
 obtain⟨hn,h⟩:=F8 h;unfold Den KC;refine He (by simp) ?_;refine zF0 zx8 l.length (λq=> [.int .i64 q]) (λq=>JQ p (l.drop q) q=some r) (by simpa using h) (by simp) λq hq hJ W hW=> ?_;by_cases AQ:q<l.length
 ·obtain⟨cs,hc,hl⟩:=hs l[q];obtain⟨b,hb,CF,FE⟩:=zCv AQ hJ;refine He (by simp[En]) (Kt (t:=true) (by simp[En,AQ]) (λ_=> ?_) (by simp));refine He (λ_=>⟨.i64,q,l.length,by simp,by omega,by simp,by omega,by simp[AQ,hc,hl]⟩) (zDn (r:= .bool b) (λ_=>⟨g,caps,by simp,?_,by simp⟩) ?_)
  ·have:=hf l[q] b hb;rw[hc]at this;simpa[AQ,hc,<-hl]using this
  ·cases b with
   |true=>exact Kt (t:=true) (by simp) (λ_=>Nt (by simp[CF rfl])) (by simp)
   |false=>refine Kt (t:=false) (by simp) (by simp) λ_=>He (by simp[En]) (zGf ?_);have:=hW AQ (FE rfl);simpa[En,Cv (n:=(q:Int)+1) (by omega) (by omega)]using this
 ·have Ke:q=l.length:=by omega
  subst Ke;have hr:r= -1:=by simpa[JQ]using hJ.symm
  refine He (by simp[En]) (Kt (t:=false) (by simp[En]) (by simp) λ_=>zGk ?_);exact Nt (by simp[hr])
theorem zGp{α:Type}{av:α->AV}{l:List α}{p:α->Option Bool}{g:Nat}{caps:List AV}{r:Int}(hs:∀x,(av x).cells=[av x])(h:FK l p=some r)(hf:∀x b,p x=some b->Cp Tryz.prog BQ (1000000+g) (av x::caps) (.bool b)):Den aM (.int .i64 r) [.sl (l.map av), .fn g caps]:=by
 obtain⟨hn,h⟩:=F8 h;unfold Den aM;refine He (by simp) ?_;refine zF0 zx8 l.length (λq=> [.int .i64 q]) (λq=>JQ p (l.drop q) q=some r) (by simpa using h) (by simp) λq hq hJ W hW=> ?_;by_cases AQ:q<l.length
 ·obtain⟨b,hb,CF,FE⟩:=zCv AQ hJ;refine He (by simp[En]) (Kt (t:=true) (by simp[En,AQ]) (λ_=> ?_) (by simp));refine He (λ_=>⟨.i64,q,l.length,by simp,by omega,by simp,by omega,by simp[AQ,hs]⟩) (zDn (r:= .bool b) (λ_=>⟨g,caps,by simp,?_,by simp⟩) ?_)
  ·have:=hf l[q] b hb;simpa[AQ,hs]using this
  ·cases b with
   |true=>exact Kt (t:=true) (by simp) (λ_=>Nt (by simp[CF rfl])) (by simp)
   |false=>refine Kt (t:=false) (by simp) (by simp) λ_=>He (by simp[En]) (zGf ?_);have:=hW AQ (FE rfl);simpa[En,Cv (n:=(q:Int)+1) (by omega) (by omega)]using this
 ·have Ke:q=l.length:=by omega
  subst Ke;have hr:r= -1:=by simpa[JQ]using hJ.symm
  refine He (by simp[En]) (Kt (t:=false) (by simp[En]) (by simp) λ_=>zGk ?_);exact Nt (by simp[hr])
def J0(f:Nat):Tr:=
 .call [] (.inl f) (.cons (.var 0) (.cons (.var 1) .nil))<|
 .dn [] (.dfd (.bin .geq (.var 2) (.int .i64 (0))))<|
 .ret (.bin .geq (.var 2) (.int .i64 (0)))
theorem Lo{α:Type}{l:List α}{p:α->Option Bool}{f:Nat}{x y:AV}{r:Bool}(h:DB l p=some r)(hf:∀i,FK l p=some i->Cp Tryz.prog BQ f [x,y] (.int .i64 i)):Den (J0 f) (.bool r) [x,y]:=by obtain⟨i,hi,h⟩:=RQ h;unfold Den J0;refine zMD (λ_=>by simpa using hf i hi) (He (by simp[En]) (Nt ?_));simp only[Af]at h;simp[En,<-h]
def UR(bytes sz:Nat):Tr:=
 .dn [] (.dfd (.len (.var 0)))<|
 .df [] (.var 0)<|
 .ite (.var 1) (
  .ret (.lst .nil)) (
  .dn [] (.room (.lst .nil) (.var 0) bytes)<|
  .dn [] (.flatS (.var 0) sz)<|
  .ret (.app (.lst .nil) (.var 0)))
def sH(bytes sz:Nat):Tr:=
 .dn [] (.dfd (.len (.var 0)))<|
 .df [] (.var 0)<|
 .ite (.var 1) (
  .ret (.lst .nil)) (
  .dn [] (.room (.lst .nil) (.var 0) bytes)<|
  .dn [] (.issl (.var 0) sz)<|
  .ret (.app (.lst .nil) (.var 0)))
theorem lG{α:Type}{av:α->AV}{xs r:List α}{bytes sz:Nat}(hs:∀x,(av x).cells.length=sz/\ ∀z∈(av x).cells,z.scalar=true)(h:Pe bytes xs=some r):Den (UR bytes sz) (.sl (r.map av)) [.sl (xs.map av)]:=by
 obtain⟨hq,h⟩:=F8 h;cases h;unfold Den UR;refine He (by simp) λb hb=> ?_;cases b with
 |true=>have:=hb (by simp) rfl;exact Kt (t:=true) (by simp) (λ_=>Nt (by simpa using this.symm)) (by simp)
 |false=>exact Kt (t:=false) (by simp) (by simp) λ_=>He (λ_=>⟨0,xs.length,by simp,by simp,by simpa using hq.1,by simpa using hq.2⟩) (He (λ_=>zON (xs:=xs) av (by simp) hs) (Nt (by simp)))
theorem zHy{α:Type}{av:α->AV}{xs r:List α}{bytes sz:Nat}(hs:∀x,(av x).cells.length=sz)(h:Pe bytes xs=some r):Den (sH bytes sz) (.sl (r.map av)) [.sl (xs.map av)]:=by
 obtain⟨hq,h⟩:=F8 h;cases h;unfold Den sH;refine He (by simp) λb hb=> ?_;cases b with
 |true=>have:=hb (by simp) rfl;exact Kt (t:=true) (by simp) (λ_=>Nt (by simpa using this.symm)) (by simp)
 |false=>exact Kt (t:=false) (by simp) (by simp) λ_=>He (λ_=>⟨0,xs.length,by simp,by simp,by simpa using hq.1,by simpa using hq.2⟩) (He (λ_=>zPo (xs:=xs) av (by simp) hs) (Nt (by simp)))
end Go.Proofs.YtlmjpjceiefpoaaGreat
end
section
namespace Go.Proofs.YtlmjpjceiefpoaaGreat
open Go.ChangeShapes Go.WideShapes Go.ChangeAt Go.RowKit
theorem zLf{P:Program}{w:World}:Eg P w [] [] [] [] [] [] [] []:= .nil
theorem zxH{P:Program}{w:World}{t:TypeId}{ts:List TypeId}{v:Value}{vs:List Value}{x:AV}{xs:List AV}{f rf:List Nat}(h:Rd w [v] [x] f)(k:Eg P w ts [] [] vs xs rf [] []):Eg P w (t::ts) [] [] (v::vs) (x::xs) (f++rf) [] []:=
 Eg.cons (h:=[]) (hs:=[]) (ms:=[]) (lo:=[]) ⟨h,rfl⟩ k
theorem zMt{P:Program}{sg:BW}{f:Nat}{fn:Func}{t:TypeId}{xs:List AV}(h:Cp P sg f xs (.bool true))(hf:f<1000000){s:IN}(hs:sg f=some s)(Cr:s.ft=[])(Ez:∀m∈s.c8,m= .ro)(Ci:FL P t s.res=false)(JB:P.funcs[f]?=some fn)(hr:fn.resultTypes.toList=[t])
  {w:World} {vs:List Value} {rf:List Nat} (ha:Eg P w fn.params.toList [] [] vs xs rf [] []) (Ea:MS.n<=w.heap.size/\MS.K w):
  Calls P f vs.toArray w λe w'=>e= .returned (.bool true)/\Below w.heap.size w w':=by
 unfold Cp at h;rw[if_pos hf]at h;obtain⟨s',A9,fn',KS,_,_,_,_,_,hc⟩:=h;rw[hs]at A9;obtain rfl:=Option.some.inj A9;rw[JB]at KS;obtain rfl:=Option.some.inj KS;refine(hc w vs rf [] [] (by rw[Cr,AH];exact ha.km _ _ Ez) (by simp) (by simp) (by simp) ⟨Ea.1,Ea.2,by simp⟩).mono λe w' ⟨v,he,hp⟩=> ?_;obtain⟨⟨R,bs,f1,o1,f2,o2,hR,A2,_⟩,hm⟩:=hp;have hRt:R= .bool true:=by
  cases bs with
  |nil=>exact hR.symm
  |cons=>cases hR
 subst hRt;rw[hr]at A2;have h2:DM P w' t s.res v (.bool true) f1 o1:=A2;unfold DM at h2;rw[Ci]at h2;obtain⟨h3,_⟩:=h2;have:v= .bool true:=by cases h3;rfl
 subst this;exact⟨he,hm.below⟩
section
variable {P:Program} {t:TypeId} {Q:List AV->Prop} {H:Type} {enc:TypeId × Value->H} {w:World} {spare:Nat->Bool} {held:Bool} {v:Value} {d:DataW H} {p:List MemPlace} {r:Reach} {base:Nat}
theorem zIx(hO:B7 P t Q)(hc:v.cells= #[v])(h:DataW.Trod enc P w 0 spare held t v d p):∃x f,Rd w [v] [x] f/\Q [x]:=by
 obtain⟨n,h⟩:=h;rw[hc]at h;obtain⟨_,_,xs,f,hr,hq⟩:=hO.2 _ _ _ _ _ _ _ _ h;have hl:=hr.len
 match xs,hl with
 | [x],_=>exact⟨x,f,hr,hq⟩
theorem zGW{fs:Array Field}(hO:B7 P t Q)(ht:P.underlying t=some (.struct fs))(hv:Value.okWide P w r base t v)(h:DataW.Trod enc P w 0 spare held t v d p):∃xs f,Rd w [v] [.agg xs] f/\Q xs:=by obtain⟨n,h⟩:=h;obtain⟨cs,rfl,_⟩:=okWide_struct ht hv;obtain⟨_,h1,xs,f,hr,hq⟩:=hO.2 _ _ _ _ _ _ _ _ h;refine⟨xs,f++ [],?_,hq⟩;have:=Rd.agg (w:=w) h1 hr .nil;simpa[Value.cells]using this
theorem zOK{k:IntKind}(hO:B7 P t Q)(ht:P.underlying t=some (.int k))(hv:Value.okWide P w r base t v)(h:DataW.Trod enc P w 0 spare held t v d p):∃x f,Rd w [v] [x] f/\Q [x]:=by obtain⟨n,rfl⟩:=okWide_int ht hv;exact zIx hO rfl h
theorem zGI(hO:B7 P t Q)(ht:P.underlying t=some .string)(hv:Value.okWide P w r base t v)(h:DataW.Trod enc P w 0 spare held t v d p):∃x f,Rd w [v] [x] f/\Q [x]:=by obtain⟨n,rfl⟩:=okWide_string ht hv;exact zIx hO rfl h
end
theorem zPy{a b:Bool}(ha:a=true)(hb:b=true):(a&&b)=true:=by rw[ha,hb];rfl
def Dt(n:Int):Prop:= -9223372036854775808<=n/\n<=9223372036854775807
def okB(_:Bool):Prop:=True
def F7(s:List UInt8):Prop:=s.length<=9223372036854775807
def B5{α:Type}(ok:α->Prop)(l:List α):Prop:=l.length<=9223372036854775807/\ ∀x∈l,ok x
theorem zRb{n:Int}(h:FO .i64 n):Dt n:=by unfold FO at h;rw[IntKind.wrap_i64]at h;unfold Dt;omega
section
variable {P:Program} {t e:TypeId} {α:Type} {ok:α->Prop} {av:α->AV}
theorem zQU(ht:P.underlying t=some (.int .i64))(hc:P.cellsOf t=1):B7 P t λxs=> ∃n,Dt n/\xs=[Qd n]:=
 (zNJ ht hc).mono λ_ ⟨n,h,e⟩=>⟨n,zRb h,e⟩
theorem opB(ht:P.underlying t=some .bool)(hc:P.cellsOf t=1):B7 P t λxs=> ∃b,okB b/\xs=[avB b]:=
 (zKZ ht hc).mono λ_ ⟨b,e⟩=>⟨b,trivial,e⟩
theorem zQ1(ht:P.underlying t=some .string)(hc:P.cellsOf t=1):B7 P t λxs=> ∃s,F7 s/\xs=[CC s]:=
 (zHx ht hc).mono λ_ ⟨s,h,e⟩=>⟨s,h,e⟩
theorem zGq:∀{ys:List AV},(∀y∈ys,J6 true (λxs=> ∃c,ok c/\ .agg xs=av c) y)-> ∃l:List α,(∀c∈l,ok c)/\ys=l.map av
 | [],_=>⟨[],by simp,rfl⟩
 |y::ys,h=>by obtain⟨l,hl,rfl⟩:=zGq λz hz=>h z (List.mem_cons_of_mem _ hz);have h0:=h y (List.mem_cons_self ..);simp only[J6,if_true]at h0;obtain⟨zs,rfl,c,hk,hc⟩:=h0;exact⟨c::l,by simpa using⟨hk,hl⟩,by simp[hc]⟩
theorem zFS:∀{ys:List AV},(∀y∈ys,J6 false (λxs=> ∃c,ok c/\xs=[av c]) y)-> ∃l:List α,(∀c∈l,ok c)/\ys=l.map av
 | [],_=>⟨[],by simp,rfl⟩
 |y::ys,h=>by obtain⟨l,hl,rfl⟩:=zFS λz hz=>h z (List.mem_cons_of_mem _ hz);have h0:=h y (List.mem_cons_self ..);simp only[J6,A6,if_false]at h0;obtain⟨_,c,hk,hc⟩:=h0;exact⟨c::l,by simpa using⟨hk,hl⟩,by simp at hc;simp[hc]⟩
theorem J5(ht:P.underlying t=some (.slice e))(hc:P.cellsOf t=1)(he:B7 P e λxs=> ∃c,ok c/\ .agg xs=av c):B7 P t λxs=> ∃l:List α,B5 ok l/\xs=[.sl (l.map av)]:=
 (zDl true ht hc he (.inl rfl)).mono λ_ ⟨ys,hl,hy,e⟩=>by obtain⟨l,hk,rfl⟩:=zGq hy;exact⟨l,⟨by simpa using hl,hk⟩,e⟩
theorem uH(ht:P.underlying t=some (.slice e))(hc:P.cellsOf t=1)(NP:P.cellsOf e=1)(he:B7 P e λxs=> ∃c,ok c/\xs=[av c]):B7 P t λxs=> ∃l:List α,B5 ok l/\xs=[.sl (l.map av)]:=
 (zDl false ht hc he (.inr NP)).mono λ_ ⟨ys,hl,hy,e⟩=>by obtain⟨l,hk,rfl⟩:=zFS hy;exact⟨l,⟨by simpa using hl,hk⟩,e⟩
end
end Go.Proofs.YtlmjpjceiefpoaaGreat
end
section
namespace Go.Proofs.YtlmjpjceiefpoaaGreat
open Go.RowKit
set_option maxRecDepth 100000
structure Ai where
 ab:List UInt8
 bf:List UInt8
 bu:Bool
@[simp] def UL(x:Ai):AV:= .agg [.str x.ab, .str x.bf, .bool x.bu]
structure AX where
 bc:Int
 ak:Int
 br:Int
 az:List (List UInt8)
 af:List Ai
@[simp] def zNr(x:AX):AV:= .agg [.int .i64 x.bc, .int .i64 x.ak, .int .i64 x.br, .sl (x.az.map CC), .sl (x.af.map UL)]
structure Cm where
 bc:Int
 dj:Bool
 ak:Int
@[simp] def zNq(x:Cm):AV:= .agg [.int .i64 x.bc, .bool x.dj, .int .i64 x.ak]
structure CE where
 ak:Int
 bf:List UInt8
 bu:Bool
@[simp] def IK(x:CE):AV:= .agg [.int .i64 x.ak, .str x.bf, .bool x.bu]
structure Ap where
 ab:List UInt8
 au:List CE
@[simp] def Eo(x:Ap):AV:= .agg [.str x.ab, .sl (x.au.map IK)]
structure A5 where
 ae:List UInt8
 dk:Int
 bh:Int
@[simp] def aT(x:A5):AV:= .agg [.str x.ae, .int .i64 x.dk, .int .i64 x.bh]
structure An where
 ae:List UInt8
 bd:List (List UInt8)
 aj:List A5
@[simp] def Z8(x:An):AV:= .agg [.str x.ae, .sl (x.bd.map CC), .sl (x.aj.map aT)]
structure CD where
 bb:List (List UInt8)
@[simp] def zPC(x:CD):AV:= .agg [.sl (x.bb.map CC)]
structure Cu where
 ah:Int
 cw:CD
 c9:CD
@[simp] def zFY(x:Cu):AV:= .agg [.int .i64 x.ah, .sl (x.cw.bb.map CC), .sl (x.c9.bb.map CC)]
structure Dc where
 gh:Int
 gz:Bool
 fAct:Cu
 fRow:CD
@[simp] def lM(x:Dc):AV:= .agg [.int .i64 x.gh, .bool x.gz, .int .i64 x.fAct.ah, .sl (x.fAct.cw.bb.map CC), .sl (x.fAct.c9.bb.map CC), .sl (x.fRow.bb.map CC)]
structure DG where
 gp:Int
@[simp] def Y6(x:DG):AV:= .agg [.int .i64 x.gp]
structure BG where
 ah:Int
 bc:Int
 ak:Int
 br:Int
 az:List (List UInt8)
 af:List Ai
 dj:Bool
@[simp] def zPn(x:BG):AV:= .agg [.int .i64 x.ah, .int .i64 x.bc, .int .i64 x.ak, .int .i64 x.br, .sl (x.az.map CC), .sl (x.af.map UL), .bool x.dj]
structure Cb where
 cd:Int
 fRec:BG
@[simp] def Z5(x:Cb):AV:= .agg [.int .i64 x.cd, .int .i64 x.fRec.ah, .int .i64 x.fRec.bc, .int .i64 x.fRec.ak, .int .i64 x.fRec.br, .sl (x.fRec.az.map CC), .sl (x.fRec.af.map UL), .bool x.fRec.dj]
structure Ct where
 ju:Bool
 ct:List Cb
 cx:Int
@[simp] def lL(x:Ct):AV:= .agg [.bool x.ju, .sl (x.ct.map Z5), .int .i64 x.cx]
structure BZ where
 ar:List Ct
 cd:Int
 br:Int
@[simp] def YZ(x:BZ):AV:= .agg [.sl (x.ar.map lL), .int .i64 x.cd, .int .i64 x.br]
structure Bh where
 ab:List UInt8
 bc:Int
 ei:Bool
@[simp] def aF(x:Bh):AV:= .agg [.str x.ab, .int .i64 x.bc, .bool x.ei]
structure AL where
 ah:Int
 ab:List UInt8
 bf:List UInt8
 ie:Int
@[simp] def bD(x:AL):AV:= .agg [.int .i64 x.ah, .str x.ab, .str x.bf, .int .i64 x.ie]
structure Ce where
 ab:List UInt8
 bf:List UInt8
 dz:Bool
@[simp] def WJ(x:Ce):AV:= .agg [.str x.ab, .str x.bf, .bool x.dz]
structure CV where
 ef:List AL
 cm:List Ce
 c6:List Int
 di:Int
 ga:Int
 dj:Bool
 ak:Int
 jf:Bool
 ky:Bool
 gi:Bool
@[simp] def Yp(x:CV):AV:= .agg [.sl (x.ef.map bD), .sl (x.cm.map WJ), .sl (x.c6.map Qd), .int .i64 x.di, .int .i64 x.ga, .bool x.dj, .int .i64 x.ak, .bool x.jf, .bool x.ky, .bool x.gi]
structure Cw where
 fg:Int
 ch:List (List UInt8)
 cm:List Ce
 ak:Int
 di:Int
 ga:Int
@[simp] def Yl(x:Cw):AV:= .agg [.int .i64 x.fg, .sl (x.ch.map CC), .sl (x.cm.map WJ), .int .i64 x.ak, .int .i64 x.di, .int .i64 x.ga]
@[simp] def sV(x:List Bh):AV:= .sl (x.map aF)
structure BA where
 gr:Int
 cz:Int
 bj:List DG
 bq:List (List UInt8)
 aw:List BZ
 cj:List (List Bh)
 bm:List Int
 cf:List CV
 cc:List Cw
@[simp] def zJb(x:BA):AV:= .agg [.int .i64 x.gr, .int .i64 x.cz, .sl (x.bj.map Y6), .sl (x.bq.map CC), .sl (x.aw.map YZ), .sl (x.cj.map sV), .sl (x.bm.map Qd), .sl (x.cf.map Yp), .sl (x.cc.map Yl)]
structure CI where
 ae:List UInt8
 cq:List An
 fw:Int
 bg:List Int
 cr:List Dc
 ao:BA
@[simp] def tN(x:CI):AV:= .agg [.str x.ae, .sl (x.cq.map Z8), .int .i64 x.fw, .sl (x.bg.map Qd), .sl (x.cr.map lM), .int .i64 x.ao.gr, .int .i64 x.ao.cz, .sl (x.ao.bj.map Y6), .sl (x.ao.bq.map CC), .sl (x.ao.aw.map YZ), .sl (x.ao.cj.map sV), .sl (x.ao.bm.map Qd), .sl (x.ao.cf.map Yp), .sl (x.ao.cc.map Yl)]
structure AD where
 bw:Int
 aq:List Ap
 al:List AX
 bz:List Cm
@[simp] def zN1(x:AD):AV:= .agg [.int .i64 x.bw, .sl (x.aq.map Eo), .sl (x.al.map zNr), .sl (x.bz.map zNq)]
end Go.Proofs.YtlmjpjceiefpoaaGreat
end
section
namespace Go.Proofs.YtlmjpjceiefpoaaGreat
open Go.ChangeShapes Go.WideShapes Go.ChangeAt Go.RowKit
set_option maxRecDepth 100000
theorem Kl:B7 Tryz.prog 9 λxs=> ∃s,F7 s/\xs=[CC s]:=zQ1 Tryz.underlying9 (by kernel_rfl)
theorem Wo:B7 Tryz.prog 26 λxs=> ∃l:List (List UInt8),B5 F7 l/\xs=[.sl (l.map CC)]:=uH Tryz.underlying26 (by kernel_rfl) (by kernel_rfl) Kl
theorem Ek:B7 Tryz.prog 3 λxs=> ∃n,Dt n/\xs=[Qd n]:=zQU Tryz.underlying3 (by kernel_rfl)
def WQ(x:A5):Prop:=F7 x.ae/\Dt x.dk/\Dt x.bh
theorem op6:B7 Tryz.prog 288 λxs=> ∃x:A5,WQ x/\ .agg xs=aT x:=
 (Gx Tryz.underlying288 (by decide+kernel) (by kernel_rfl) (.cons Kl (.cons Ek (.cons Ek .nil)))).mono λ_ ⟨_,_,e0,⟨x0,k0,h0⟩,_,_,e1,⟨x1,k1,h1⟩,_,_,e2,⟨x2,k2,h2⟩,hz⟩=>by subst h2 hz e2 h1 e1 h0 e0;exact⟨⟨x0,x1,x2⟩,⟨k0,k1,k2⟩,by simp⟩
theorem op5:B7 Tryz.prog 93 λxs=> ∃l:List A5,B5 WQ l/\xs=[.sl (l.map aT)]:=J5 Tryz.underlying93 (by kernel_rfl) op6
def Y5(x:An):Prop:=F7 x.ae/\(B5 F7) x.bd/\(B5 WQ) x.aj
theorem op3:B7 Tryz.prog 95 λxs=> ∃x:An,Y5 x/\ .agg xs=Z8 x:=
 (Gx Tryz.underlying95 (by decide+kernel) (by kernel_rfl) (.cons Kl (.cons Wo (.cons op5 .nil)))).mono λ_ ⟨_,_,e0,⟨x0,k0,h0⟩,_,_,e1,⟨x1,k1,h1⟩,_,_,e2,⟨x2,k2,h2⟩,hz⟩=>by subst h2 hz e2 h1 e1 h0 e0;exact⟨⟨x0,x1,x2⟩,⟨k0,k1,k2⟩,by simp⟩
theorem op2:B7 Tryz.prog 22 λxs=> ∃l:List An,B5 Y5 l/\xs=[.sl (l.map Z8)]:=J5 Tryz.underlying22 (by kernel_rfl) op3
theorem pX:B7 Tryz.prog 23 λxs=> ∃l:List Int,B5 Dt l/\xs=[.sl (l.map Qd)]:=uH Tryz.underlying23 (by kernel_rfl) (by kernel_rfl) Ek
theorem LR:B7 Tryz.prog 4 λxs=> ∃b,okB b/\xs=[avB b]:=opB Tryz.underlying4 (by kernel_rfl)
def WN(x:CD):Prop:=(B5 F7) x.bb
theorem uR:B7 Tryz.prog 98 λxs=> ∃x:CD,WN x/\ .agg xs=zPC x:=
 (Gx Tryz.underlying98 (by decide+kernel) (by kernel_rfl) (.cons Wo .nil)).mono λ_ ⟨_,_,e0,⟨x0,k0,h0⟩,hz⟩=>by subst h0 hz e0;exact⟨⟨x0⟩,k0,by simp⟩
def qX(x:Cu):Prop:=Dt x.ah/\WN x.cw/\WN x.c9
theorem zRF:B7 Tryz.prog 100 λxs=> ∃x:Cu,qX x/\ .agg xs=zFY x:=
 (Gx Tryz.underlying100 (by decide+kernel) (by kernel_rfl) (.cons Ek (.cons uR (.cons uR .nil)))).mono λ_ ⟨_,_,e0,⟨x0,k0,h0⟩,_,_,e1,⟨x1,k1,h1⟩,_,_,e2,⟨x2,k2,h2⟩,hz⟩=>by have g2:=AV.agg.inj h2;have g1:=AV.agg.inj h1;subst g2 hz e2 g1 e1 h0 e0;exact⟨⟨x0,x1,x2⟩,⟨k0,k1,k2⟩,by simp⟩
def Yz(x:Dc):Prop:=Dt x.gh/\okB x.gz/\qX x.fAct/\WN x.fRow
theorem zRJ:B7 Tryz.prog 102 λxs=> ∃x:Dc,Yz x/\ .agg xs=lM x:=
 (Gx Tryz.underlying102 (by decide+kernel) (by kernel_rfl) (.cons Ek (.cons LR (.cons zRF (.cons uR .nil))))).mono λ_ ⟨_,_,e0,⟨x0,k0,h0⟩,_,_,e1,⟨x1,k1,h1⟩,_,_,e2,⟨x2,k2,h2⟩,_,_,e3,⟨x3,k3,h3⟩,hz⟩=>by have g3:=AV.agg.inj h3;have g2:=AV.agg.inj h2;subst g3 hz e3 g2 e2 h1 e1 h0 e0;exact⟨⟨x0,x1,x2,x3⟩,⟨k0,k1,k2,k3⟩,by simp⟩
theorem op9:B7 Tryz.prog 24 λxs=> ∃l:List Dc,B5 Yz l/\xs=[.sl (l.map lM)]:=J5 Tryz.underlying24 (by kernel_rfl) zRJ
def Z6(x:DG):Prop:=Dt x.gp
theorem zRx:B7 Tryz.prog 234 λxs=> ∃x:DG,Z6 x/\ .agg xs=Y6 x:=
 (Gx Tryz.underlying234 (by decide+kernel) (by kernel_rfl) (.cons Ek .nil)).mono λ_ ⟨_,_,e0,⟨x0,k0,h0⟩,hz⟩=>by subst h0 hz e0;exact⟨⟨x0⟩,k0,by simp⟩
theorem zRy:B7 Tryz.prog 25 λxs=> ∃l:List DG,B5 Z6 l/\xs=[.sl (l.map Y6)]:=J5 Tryz.underlying25 (by kernel_rfl) zRx
def Y2(x:Ai):Prop:=F7 x.ab/\F7 x.bf/\okB x.bu
theorem zRN:B7 Tryz.prog 490 λxs=> ∃x:Ai,Y2 x/\ .agg xs=UL x:=
 (Gx Tryz.underlying490 (by decide+kernel) (by kernel_rfl) (.cons Kl (.cons Kl (.cons LR .nil)))).mono λ_ ⟨_,_,e0,⟨x0,k0,h0⟩,_,_,e1,⟨x1,k1,h1⟩,_,_,e2,⟨x2,k2,h2⟩,hz⟩=>by subst h2 hz e2 h1 e1 h0 e0;exact⟨⟨x0,x1,x2⟩,⟨k0,k1,k2⟩,by simp⟩
theorem zRI:B7 Tryz.prog 436 λxs=> ∃l:List Ai,B5 Y2 l/\xs=[.sl (l.map UL)]:=J5 Tryz.underlying436 (by kernel_rfl) zRN
def tZ(x:BG):Prop:=Dt x.ah/\Dt x.bc/\Dt x.ak/\Dt x.br/\(B5 F7) x.az/\(B5 Y2) x.af/\okB x.dj
theorem zRK:B7 Tryz.prog 438 λxs=> ∃x:BG,tZ x/\ .agg xs=zPn x:=
 (Gx Tryz.underlying438 (by decide+kernel) (by kernel_rfl) (.cons Ek (.cons Ek (.cons Ek (.cons Ek (.cons Wo (.cons zRI (.cons LR .nil)))))))).mono λ_ ⟨_,_,e0,⟨x0,k0,h0⟩,_,_,e1,⟨x1,k1,h1⟩,_,_,e2,⟨x2,k2,h2⟩,_,_,e3,⟨x3,k3,h3⟩,_,_,e4,⟨x4,k4,h4⟩,_,_,e5,⟨x5,k5,h5⟩,_,_,e6,⟨x6,k6,h6⟩,hz⟩=>by subst h6 hz e6 h5 e5 h4 e4 h3 e3 h2 e2 h1 e1 h0 e0;exact⟨⟨x0,x1,x2,x3,x4,x5,x6⟩,⟨k0,k1,k2,k3,k4,k5,k6⟩,by simp⟩
def Zh(x:Cb):Prop:=Dt x.cd/\tZ x.fRec
theorem zRD:B7 Tryz.prog 440 λxs=> ∃x:Cb,Zh x/\ .agg xs=Z5 x:=
 (Gx Tryz.underlying440 (by decide+kernel) (by kernel_rfl) (.cons Ek (.cons zRK .nil))).mono λ_ ⟨_,_,e0,⟨x0,k0,h0⟩,_,_,e1,⟨x1,k1,h1⟩,hz⟩=>by have g1:=AV.agg.inj h1;subst g1 hz e1 h0 e0;exact⟨⟨x0,x1⟩,⟨k0,k1⟩,by simp⟩
theorem zRO:B7 Tryz.prog 360 λxs=> ∃l:List Cb,B5 Zh l/\xs=[.sl (l.map Z5)]:=J5 Tryz.underlying360 (by kernel_rfl) zRD
def YB(x:Ct):Prop:=okB x.ju/\(B5 Zh) x.ct/\Dt x.cx
theorem zRS:B7 Tryz.prog 362 λxs=> ∃x:Ct,YB x/\ .agg xs=lL x:=
 (Gx Tryz.underlying362 (by decide+kernel) (by kernel_rfl) (.cons LR (.cons zRO (.cons Ek .nil)))).mono λ_ ⟨_,_,e0,⟨x0,k0,h0⟩,_,_,e1,⟨x1,k1,h1⟩,_,_,e2,⟨x2,k2,h2⟩,hz⟩=>by subst h2 hz e2 h1 e1 h0 e0;exact⟨⟨x0,x1,x2⟩,⟨k0,k1,k2⟩,by simp⟩
theorem zRL:B7 Tryz.prog 185 λxs=> ∃l:List Ct,B5 YB l/\xs=[.sl (l.map lL)]:=J5 Tryz.underlying185 (by kernel_rfl) zRS
def Zd(x:BZ):Prop:=(B5 YB) x.ar/\Dt x.cd/\Dt x.br
theorem zRC:B7 Tryz.prog 187 λxs=> ∃x:BZ,Zd x/\ .agg xs=YZ x:=
 (Gx Tryz.underlying187 (by decide+kernel) (by kernel_rfl) (.cons zRL (.cons Ek (.cons Ek .nil)))).mono λ_ ⟨_,_,e0,⟨x0,k0,h0⟩,_,_,e1,⟨x1,k1,h1⟩,_,_,e2,⟨x2,k2,h2⟩,hz⟩=>by subst h2 hz e2 h1 e1 h0 e0;exact⟨⟨x0,x1,x2⟩,⟨k0,k1,k2⟩,by simp⟩
theorem zRA:B7 Tryz.prog 27 λxs=> ∃l:List BZ,B5 Zd l/\xs=[.sl (l.map YZ)]:=J5 Tryz.underlying27 (by kernel_rfl) zRC
def Rf(x:Bh):Prop:=F7 x.ab/\Dt x.bc/\okB x.ei
theorem zRu:B7 Tryz.prog 292 λxs=> ∃x:Bh,Rf x/\ .agg xs=aF x:=
 (Gx Tryz.underlying292 (by decide+kernel) (by kernel_rfl) (.cons Kl (.cons Ek (.cons LR .nil)))).mono λ_ ⟨_,_,e0,⟨x0,k0,h0⟩,_,_,e1,⟨x1,k1,h1⟩,_,_,e2,⟨x2,k2,h2⟩,hz⟩=>by subst h2 hz e2 h1 e1 h0 e0;exact⟨⟨x0,x1,x2⟩,⟨k0,k1,k2⟩,by simp⟩
theorem zRM:B7 Tryz.prog 189 λxs=> ∃l:List Bh,B5 Rf l/\xs=[.sl (l.map aF)]:=J5 Tryz.underlying189 (by kernel_rfl) zRu
theorem zRB:B7 Tryz.prog 28 λxs=> ∃l:List (List Bh),B5 (B5 Rf) l/\xs=[.sl (l.map sV)]:=uH Tryz.underlying28 (by kernel_rfl) (by kernel_rfl) zRM
def Xb(x:AL):Prop:=Dt x.ah/\F7 x.ab/\F7 x.bf/\Dt x.ie
theorem zRH:B7 Tryz.prog 364 λxs=> ∃x:AL,Xb x/\ .agg xs=bD x:=
 (Gx Tryz.underlying364 (by decide+kernel) (by kernel_rfl) (.cons Ek (.cons Kl (.cons Kl (.cons Ek .nil))))).mono λ_ ⟨_,_,e0,⟨x0,k0,h0⟩,_,_,e1,⟨x1,k1,h1⟩,_,_,e2,⟨x2,k2,h2⟩,_,_,e3,⟨x3,k3,h3⟩,hz⟩=>by subst h3 hz e3 h2 e2 h1 e1 h0 e0;exact⟨⟨x0,x1,x2,x3⟩,⟨k0,k1,k2,k3⟩,by simp⟩
theorem zRz:B7 Tryz.prog 191 λxs=> ∃l:List AL,B5 Xb l/\xs=[.sl (l.map bD)]:=J5 Tryz.underlying191 (by kernel_rfl) zRH
def RU(x:Ce):Prop:=F7 x.ab/\F7 x.bf/\okB x.dz
theorem zRU:B7 Tryz.prog 366 λxs=> ∃x:Ce,RU x/\ .agg xs=WJ x:=
 (Gx Tryz.underlying366 (by decide+kernel) (by kernel_rfl) (.cons Kl (.cons Kl (.cons LR .nil)))).mono λ_ ⟨_,_,e0,⟨x0,k0,h0⟩,_,_,e1,⟨x1,k1,h1⟩,_,_,e2,⟨x2,k2,h2⟩,hz⟩=>by subst h2 hz e2 h1 e1 h0 e0;exact⟨⟨x0,x1,x2⟩,⟨k0,k1,k2⟩,by simp⟩
theorem zRl:B7 Tryz.prog 192 λxs=> ∃l:List Ce,B5 RU l/\xs=[.sl (l.map WJ)]:=J5 Tryz.underlying192 (by kernel_rfl) zRU
def Yv(x:CV):Prop:=(B5 Xb) x.ef/\(B5 RU) x.cm/\(B5 Dt) x.c6/\Dt x.di/\Dt x.ga/\okB x.dj/\Dt x.ak/\okB x.jf/\okB x.ky/\okB x.gi
theorem zRP:B7 Tryz.prog 194 λxs=> ∃x:CV,Yv x/\ .agg xs=Yp x:=
 (Gx Tryz.underlying194 (by decide+kernel) (by kernel_rfl) (.cons zRz (.cons zRl (.cons pX (.cons Ek (.cons Ek (.cons LR (.cons Ek (.cons LR (.cons LR (.cons LR .nil))))))))))).mono λ_ ⟨_,_,e0,⟨x0,k0,h0⟩,_,_,e1,⟨x1,k1,h1⟩,_,_,e2,⟨x2,k2,h2⟩,_,_,e3,⟨x3,k3,h3⟩,_,_,e4,⟨x4,k4,h4⟩,_,_,e5,⟨x5,k5,h5⟩,_,_,e6,⟨x6,k6,h6⟩,_,_,e7,⟨x7,k7,h7⟩,_,_,e8,⟨x8,k8,h8⟩,_,_,e9,⟨x9,k9,h9⟩,hz⟩=>by subst h9 hz e9 h8 e8 h7 e7 h6 e6 h5 e5 h4 e4 h3 e3 h2 e2 h1 e1 h0 e0;exact⟨⟨x0,x1,x2,x3,x4,x5,x6,x7,x8,x9⟩,⟨k0,k1,k2,k3,k4,k5,k6,k7,k8,k9⟩,by simp⟩
theorem zRT:B7 Tryz.prog 29 λxs=> ∃l:List CV,B5 Yv l/\xs=[.sl (l.map Yp)]:=J5 Tryz.underlying29 (by kernel_rfl) zRP
def Ym(x:Cw):Prop:=Dt x.fg/\(B5 F7) x.ch/\(B5 RU) x.cm/\Dt x.ak/\Dt x.di/\Dt x.ga
theorem zRG:B7 Tryz.prog 197 λxs=> ∃x:Cw,Ym x/\ .agg xs=Yl x:=
 (Gx Tryz.underlying197 (by decide+kernel) (by kernel_rfl) (.cons Ek (.cons Wo (.cons zRl (.cons Ek (.cons Ek (.cons Ek .nil))))))).mono λ_ ⟨_,_,e0,⟨x0,k0,h0⟩,_,_,e1,⟨x1,k1,h1⟩,_,_,e2,⟨x2,k2,h2⟩,_,_,e3,⟨x3,k3,h3⟩,_,_,e4,⟨x4,k4,h4⟩,_,_,e5,⟨x5,k5,h5⟩,hz⟩=>by subst h5 hz e5 h4 e4 h3 e3 h2 e2 h1 e1 h0 e0;exact⟨⟨x0,x1,x2,x3,x4,x5⟩,⟨k0,k1,k2,k3,k4,k5⟩,by simp⟩
theorem zRR:B7 Tryz.prog 30 λxs=> ∃l:List Cw,B5 Ym l/\xs=[.sl (l.map Yl)]:=J5 Tryz.underlying30 (by kernel_rfl) zRG
def sS(x:BA):Prop:=Dt x.gr/\Dt x.cz/\(B5 Z6) x.bj/\(B5 F7) x.bq/\(B5 Zd) x.aw/\(B5 (B5 Rf)) x.cj/\(B5 Dt) x.bm/\(B5 Yv) x.cf/\(B5 Ym) x.cc
theorem zRw:B7 Tryz.prog 32 λxs=> ∃x:BA,sS x/\ .agg xs=zJb x:=
 (Gx Tryz.underlying32 (by decide+kernel) (by kernel_rfl) (.cons Ek (.cons Ek (.cons zRy (.cons Wo (.cons zRA (.cons zRB (.cons pX (.cons zRT (.cons zRR .nil)))))))))).mono λ_ ⟨_,_,e0,⟨x0,k0,h0⟩,_,_,e1,⟨x1,k1,h1⟩,_,_,e2,⟨x2,k2,h2⟩,_,_,e3,⟨x3,k3,h3⟩,_,_,e4,⟨x4,k4,h4⟩,_,_,e5,⟨x5,k5,h5⟩,_,_,e6,⟨x6,k6,h6⟩,_,_,e7,⟨x7,k7,h7⟩,_,_,e8,⟨x8,k8,h8⟩,hz⟩=>by subst h8 hz e8 h7 e7 h6 e6 h5 e5 h4 e4 h3 e3 h2 e2 h1 e1 h0 e0;exact⟨⟨x0,x1,x2,x3,x4,x5,x6,x7,x8⟩,⟨k0,k1,k2,k3,k4,k5,k6,k7,k8⟩,by simp⟩
def sX(x:CI):Prop:=F7 x.ae/\(B5 Y5) x.cq/\Dt x.fw/\(B5 Dt) x.bg/\(B5 Yz) x.cr/\sS x.ao
theorem op0:B7 Tryz.prog 34 λxs=> ∃x:CI,sX x/\ .agg xs=tN x:=
 (Gx Tryz.underlying34 (by decide+kernel) (by kernel_rfl) (.cons Kl (.cons op2 (.cons Ek (.cons pX (.cons op9 (.cons zRw .nil))))))).mono λ_ ⟨_,_,e0,⟨x0,k0,h0⟩,_,_,e1,⟨x1,k1,h1⟩,_,_,e2,⟨x2,k2,h2⟩,_,_,e3,⟨x3,k3,h3⟩,_,_,e4,⟨x4,k4,h4⟩,_,_,e5,⟨x5,k5,h5⟩,hz⟩=>by have g5:=AV.agg.inj h5;subst g5 hz e5 h4 e4 h3 e3 h2 e2 h1 e1 h0 e0;exact⟨⟨x0,x1,x2,x3,x4,x5⟩,⟨k0,k1,k2,k3,k4,k5⟩,by simp⟩
end Go.Proofs.YtlmjpjceiefpoaaGreat
end
section
namespace Go.Proofs.YtlmjpjceiefpoaaGreat
open Go.RowKit
set_option maxRecDepth 100000
section
variable {Rt:Nat->List AV->AV->Prop} {R:AV->Prop} {L:LK} {js:List JK} {ρ:List AV}
end
abbrev RtS:Nat->List AV->AV->Prop:=Cp Tryz.prog BQ
@[reducible] def R1:Nat->Type
 |0=>Ai
 |1=>AX
 |2=>Cm
 |3=>CE
 |4=>Ap
 |5=>A5
 |6=>An
 |7=>CD
 |8=>Cu
 |9=>Dc
 |10=>DG
 |11=>BG
 |12=>Cb
 |13=>Ct
 |14=>BZ
 |15=>Bh
 |16=>AL
 |17=>Ce
 |18=>CV
 |19=>Cw
 |20=>BA
 |21=>CI
 |22=>AD
 |_+23=>Unit
@[reducible] def bI:Nat->List Ty
 |0=> [.s, .s, .b]
 |1=> [.i .i64, .i .i64, .i .i64, .l .s, .l (.st 0)]
 |2=> [.i .i64, .b, .i .i64]
 |3=> [.i .i64, .s, .b]
 |4=> [.s, .l (.st 3)]
 |5=> [.s, .i .i64, .i .i64]
 |6=> [.s, .l .s, .l (.st 5)]
 |7=> [.l .s]
 |8=> [.i .i64, .l .s, .l .s]
 |9=> [.i .i64, .b, .i .i64, .l .s, .l .s, .l .s]
 |10=> [.i .i64]
 |11=> [.i .i64, .i .i64, .i .i64, .i .i64, .l .s, .l (.st 0), .b]
 |12=> [.i .i64, .i .i64, .i .i64, .i .i64, .i .i64, .l .s, .l (.st 0), .b]
 |13=> [.b, .l (.st 12), .i .i64]
 |14=> [.l (.st 13), .i .i64, .i .i64]
 |15=> [.s, .i .i64, .b]
 |16=> [.i .i64, .s, .s, .i .i64]
 |17=> [.s, .s, .b]
 |18=> [.l (.st 16), .l (.st 17), .l (.i .i64), .i .i64, .i .i64, .b, .i .i64, .b, .b, .b]
 |19=> [.i .i64, .l .s, .l (.st 17), .i .i64, .i .i64, .i .i64]
 |20=> [.i .i64, .i .i64, .l (.st 10), .l .s, .l (.st 14), .l (.l (.st 15)), .l (.i .i64), .l (.st 18), .l (.st 19)]
 |21=> [.s, .l (.st 6), .i .i64, .l (.i .i64), .l (.st 9), .i .i64, .i .i64, .l (.st 10), .l .s, .l (.st 14), .l (.l (.st 15)), .l (.i .i64), .l (.st 18), .l (.st 19)]
 |22=> [.i .i64, .l (.st 4), .l (.st 1), .l (.st 2)]
 |_+23=> []
def pZ:∀n,R1 n->AV
 |0,x=>UL x
 |1,x=>zNr x
 |2,x=>zNq x
 |3,x=>IK x
 |4,x=>Eo x
 |5,x=>aT x
 |6,x=>Z8 x
 |7,x=>zPC x
 |8,x=>zFY x
 |9,x=>lM x
 |10,x=>Y6 x
 |11,x=>zPn x
 |12,x=>Z5 x
 |13,x=>lL x
 |14,x=>YZ x
 |15,x=>aF x
 |16,x=>bD x
 |17,x=>WJ x
 |18,x=>Yp x
 |19,x=>Yl x
 |20,x=>zJb x
 |21,x=>tN x
 |22,x=>zN1 x
 |_+23,_=> .agg []
def uV:∀n,R1 n->HL R1 (bI n)
 |0,x=>(x.ab,x.bf,x.bu,())
 |1,x=>(x.bc,x.ak,x.br,x.az,x.af,())
 |2,x=>(x.bc,x.dj,x.ak,())
 |3,x=>(x.ak,x.bf,x.bu,())
 |4,x=>(x.ab,x.au,())
 |5,x=>(x.ae,x.dk,x.bh,())
 |6,x=>(x.ae,x.bd,x.aj,())
 |7,x=>(x.bb,())
 |8,x=>(x.ah,x.cw.bb,x.c9.bb,())
 |9,x=>(x.gh,x.gz,x.fAct.ah,x.fAct.cw.bb,x.fAct.c9.bb,x.fRow.bb,())
 |10,x=>(x.gp,())
 |11,x=>(x.ah,x.bc,x.ak,x.br,x.az,x.af,x.dj,())
 |12,x=>(x.cd,x.fRec.ah,x.fRec.bc,x.fRec.ak,x.fRec.br,x.fRec.az,x.fRec.af,x.fRec.dj,())
 |13,x=>(x.ju,x.ct,x.cx,())
 |14,x=>(x.ar,x.cd,x.br,())
 |15,x=>(x.ab,x.bc,x.ei,())
 |16,x=>(x.ah,x.ab,x.bf,x.ie,())
 |17,x=>(x.ab,x.bf,x.dz,())
 |18,x=>(x.ef,x.cm,x.c6,x.di,x.ga,x.dj,x.ak,x.jf,x.ky,x.gi,())
 |19,x=>(x.fg,x.ch,x.cm,x.ak,x.di,x.ga,())
 |20,x=>(x.gr,x.cz,x.bj,x.bq,x.aw,x.cj,x.bm,x.cf,x.cc,())
 |21,x=>(x.ae,x.cq,x.fw,x.bg,x.cr,x.ao.gr,x.ao.cz,x.ao.bj,x.ao.bq,x.ao.aw,x.ao.cj,x.ao.bm,x.ao.cf,x.ao.cc,())
 |22,x=>(x.bw,x.aq,x.al,x.bz,())
 |_+23,_=>()
def tMk:∀n,HL R1 (bI n)->R1 n
 |0,x=>⟨x.1,x.2.1,x.2.2.1⟩
 |1,x=>⟨x.1,x.2.1,x.2.2.1,x.2.2.2.1,x.2.2.2.2.1⟩
 |2,x=>⟨x.1,x.2.1,x.2.2.1⟩
 |3,x=>⟨x.1,x.2.1,x.2.2.1⟩
 |4,x=>⟨x.1,x.2.1⟩
 |5,x=>⟨x.1,x.2.1,x.2.2.1⟩
 |6,x=>⟨x.1,x.2.1,x.2.2.1⟩
 |7,x=>⟨x.1⟩
 |8,x=>⟨x.1,⟨x.2.1⟩,⟨x.2.2.1⟩⟩
 |9,x=>⟨x.1,x.2.1,⟨x.2.2.1,⟨x.2.2.2.1⟩,⟨x.2.2.2.2.1⟩⟩,⟨x.2.2.2.2.2.1⟩⟩
 |10,x=>⟨x.1⟩
 |11,x=>⟨x.1,x.2.1,x.2.2.1,x.2.2.2.1,x.2.2.2.2.1,x.2.2.2.2.2.1,x.2.2.2.2.2.2.1⟩
 |12,x=>⟨x.1,⟨x.2.1,x.2.2.1,x.2.2.2.1,x.2.2.2.2.1,x.2.2.2.2.2.1,x.2.2.2.2.2.2.1,x.2.2.2.2.2.2.2.1⟩⟩
 |13,x=>⟨x.1,x.2.1,x.2.2.1⟩
 |14,x=>⟨x.1,x.2.1,x.2.2.1⟩
 |15,x=>⟨x.1,x.2.1,x.2.2.1⟩
 |16,x=>⟨x.1,x.2.1,x.2.2.1,x.2.2.2.1⟩
 |17,x=>⟨x.1,x.2.1,x.2.2.1⟩
 |18,x=>⟨x.1,x.2.1,x.2.2.1,x.2.2.2.1,x.2.2.2.2.1,x.2.2.2.2.2.1,x.2.2.2.2.2.2.1,x.2.2.2.2.2.2.2.1,x.2.2.2.2.2.2.2.2.1,x.2.2.2.2.2.2.2.2.2.1⟩
 |19,x=>⟨x.1,x.2.1,x.2.2.1,x.2.2.2.1,x.2.2.2.2.1,x.2.2.2.2.2.1⟩
 |20,x=>⟨x.1,x.2.1,x.2.2.1,x.2.2.2.1,x.2.2.2.2.1,x.2.2.2.2.2.1,x.2.2.2.2.2.2.1,x.2.2.2.2.2.2.2.1,x.2.2.2.2.2.2.2.2.1⟩
 |21,x=>⟨x.1,x.2.1,x.2.2.1,x.2.2.2.1,x.2.2.2.2.1,⟨x.2.2.2.2.2.1,x.2.2.2.2.2.2.1,x.2.2.2.2.2.2.2.1,x.2.2.2.2.2.2.2.2.1,x.2.2.2.2.2.2.2.2.2.1,x.2.2.2.2.2.2.2.2.2.2.1,x.2.2.2.2.2.2.2.2.2.2.2.1,x.2.2.2.2.2.2.2.2.2.2.2.2.1,x.2.2.2.2.2.2.2.2.2.2.2.2.2.1⟩⟩
 |22,x=>⟨x.1,x.2.1,x.2.2.1,x.2.2.2.1⟩
 |_+23,_=>()
theorem zPS:∀n x,pZ n x= .agg (I6 pZ (bI n) (uV n x))
 |0,_=>rfl
 |1,_=>rfl
 |2,_=>rfl
 |3,_=>rfl
 |4,_=>rfl
 |5,_=>rfl
 |6,_=>rfl
 |7,_=>rfl
 |8,_=>rfl
 |9,_=>rfl
 |10,_=>rfl
 |11,_=>rfl
 |12,_=>rfl
 |13,_=>rfl
 |14,_=>rfl
 |15,_=>rfl
 |16,_=>rfl
 |17,_=>rfl
 |18,_=>rfl
 |19,_=>rfl
 |20,_=>rfl
 |21,_=>rfl
 |22,_=>rfl
 |_+23,_=>rfl
theorem zNL:∀n h,uV n (tMk n h)=h
 |0,_=>rfl
 |1,_=>rfl
 |2,_=>rfl
 |3,_=>rfl
 |4,_=>rfl
 |5,_=>rfl
 |6,_=>rfl
 |7,_=>rfl
 |8,_=>rfl
 |9,_=>rfl
 |10,_=>rfl
 |11,_=>rfl
 |12,_=>rfl
 |13,_=>rfl
 |14,_=>rfl
 |15,_=>rfl
 |16,_=>rfl
 |17,_=>rfl
 |18,_=>rfl
 |19,_=>rfl
 |20,_=>rfl
 |21,_=>rfl
 |22,_=>rfl
 |_+23,_=>rfl
@[reducible] def CU:J8:=⟨RtS,R1,pZ,bI,uV,tMk,zPS,zNL⟩
abbrev FS:=FN CU
noncomputable def qA(tb:List FS)(hs:List JM)(o:Option Tr)(ps:List PT)(r:RT)(xs:HP CU.car ps)(hp:JS CU ps xs):Option (Jt CU.car r):=match o with
 |some t=>CX tb 100000 (RE r) t hs (ZT ps xs hp) [] []
 |none=>none
theorem zQ4{f:Nat}{ps:List PT}{r:RT}{φ:HP CU.car ps->Option (Jt CU.car r)}(tb:List FS)(hs:List JM)(h:∀xs hp,qA tb hs (W6 Tryz.prog BQ f) ps r xs hp=φ xs)(hk:∀xs y,bF Tryz.prog BQ f (GD CU ps xs) (G6 CU r y)=true)(xs:HP CU.car ps)(y:Jt CU.car r)(hp:JS CU ps xs)(e:φ xs=some y):CU.Rt f (GD CU ps xs) (G6 CU r y):=by
 rw[<-h xs hp]at e;unfold qA at e;split at e
 ·rename_i t ht;refine Ee ht (hk xs y) ?_;unfold Den;rw[<-zJW ps xs hp];exact Fl tb 100000 (fa:=[]) (λ_ h=>nomatch h) (λ_ h=>nomatch h) (λv hv=>sU r hv) .nil e
 ·cases e
noncomputable def Ad(f:Nat)(ps:List PT)(r:RT)(φ:HP CU.car ps->Option (Jt CU.car r))(tb:List FS)(hs:List JM)(h:∀xs hp,qA tb hs (W6 Tryz.prog BQ f) ps r xs hp=φ xs:=by intro _ _;kernel_rfl)(hk:∀xs y,bF Tryz.prog BQ f (GD CU ps xs) (G6 CU r y)=true:=by intro _ _;kernel_rfl):FS:=
 ⟨f,ps,r,φ,λxs y hp e=>zQ4 tb hs h hk xs y hp e,false,λh=>by cases h⟩
noncomputable def Gu(d:FS)(h:∀y,tM d.f (G6 CU d.r y)=true):FS:=
 ⟨d.f,d.ps,d.r,d.φ,d.ok,true,λ_ xs y hx e=>zIg (d.ok xs y hx e) (h y)⟩
noncomputable def C5(f:Nat)(ps:List PT)(r:RT)(φ:HP CU.car ps->Option (Jt CU.car r))(ok:∀xs y,JS CU ps xs->φ xs=some y->CU.Rt f (GD CU ps xs) (G6 CU r y)):FS:=⟨f,ps,r,φ,ok,false,λh=>by cases h⟩
abbrev RM(s k:Int):Prop:=s*k<=140737488355328/\s<=140737488355328
noncomputable def Xa{α:Type}(f:α->Option α)(a0:List α)(v1:Int)(v2:List α):Option ((Int × List α) ⊕ Option (List α)):=
 if(decide (v1<(a0.length:Int)))then
  (Ak a0 v1).bind λy3=>
  (f y3).bind λv4=>
  (Ak v2 v1).bind λ_=>
  some (.inl ((IntKind.i64.wrap (v1+1)),(v2.set (v1).toNat v4)))
 else
  some (.inr (some v2))
noncomputable def toL{α:Type}(f:α->Option α)(d:α)(b:Int)(a0:List α):Option (List α):=
 Ax (0<=(a0.length:Int)/\(a0.length:Int)*b<=140737488355328/\(a0.length:Int)<=140737488355328)<|
 Ao (λs:Int × List α=>Xa f a0 s.1 s.2) (0,(List.replicate ((a0.length:Int)).toNat d))
noncomputable def Xg{α:Type}(f:α->α->Option Bool)(a0 a1:List α)(v1:Int):Option ((Int) ⊕ Option (Bool)):=
 if(decide (v1<(a0.length:Int)))then
  (Ak a0 v1).bind λy2=>
  (Ak a1 v1).bind λy3=>
  (f y2 y3).bind λv4=>
  if(!v4)then
   some (.inr (some false))
  else
   some (.inl (IntKind.i64.wrap (v1+1)))
 else
  some (.inr (some true))
noncomputable def Hj{α:Type}(f:α->α->Option Bool)(a0 a1:List α):Option Bool:=
 if((a0.length:Int) !=(a1.length:Int))then
  some false
 else
  Ao (λs:Int=>Xg f a0 a1 s) 0
noncomputable def RY{α:Type}(f:α->Int->Option Int)(a0:List α)(v1 v2:Int):Option ((Int × Int) ⊕ Option (Int)):=
 if(decide (v2<(a0.length:Int)))then
  (Ak a0 v2).bind λy3=>
  (f y3 v1).bind λv4=>
  if(decide (v4<0))then
   some (.inr (some (-1)))
  else
   some (.inl (v4,(IntKind.i64.wrap (v2+1))))
 else
  some (.inr (some v1))
noncomputable def It{α:Type}(f:α->Int->Option Int)(a0:List α)(a1:Int):Option (Int):=
 if(decide ((IntKind.i64.wrap (a1-(a0.length:Int)))<0))then
  some (-1)
 else
  Ao (λs:Int × Int=>RY f a0 s.1 s.2) ((IntKind.i64.wrap (a1-(a0.length:Int))),0)
end Go.Proofs.YtlmjpjceiefpoaaGreat
end
section
namespace Go.Proofs.YtlmjpjceiefpoaaGreat
open Go.RowKit
theorem Eg.rd{P:Program}{w:World}{ts:List TypeId}{ms:List PM}{lo:List Bool}{vs:List Value}{xs:List AV}{rf lf hs:List Nat}(h:Eg P w ts ms lo vs xs rf lf hs):lo=[]->(∀m∈ms,m= .ro)->Rd w vs xs rf/\hs=[]:=by
 induction h with
 |nil=>intro _ _;exact⟨.nil,rfl⟩
 |lent h1 _ _ _ _=>intro Ca;subst Ca;cases h1
 | @cons t ts ms lo v vs x xs f h rf lf hs Bi _ ih=>
  intro Ca E9;subst Ca;obtain⟨h1,rfl⟩:=ih rfl λm hm=>E9 m (List.mem_of_mem_tail hm);have Ez:ms.headD .ro= .ro:=by
   cases ms with
   |nil=>rfl
   |cons m ms=>exact E9 m (by simp)
  rw[Ez]at Bi;obtain⟨h2,h3⟩:Rd w [v] [x] f/\h=[]:=Bi;subst h3;exact⟨by simpa using h2.app h1,rfl⟩
 |free h1 _ ih=>intro Ca E9;subst Ca;obtain⟨h2,rfl⟩:=ih rfl λm hm=>E9 m (List.mem_of_mem_tail hm);exact⟨by simpa using h1.app h2,rfl⟩
theorem D4.j8{P:Program}{w:World}:∀{ts:List TypeId} {ms:List PM} {vs:List Value},vs.length=ts.length->(∀m∈ms,m= .ro)->D4 P w ts ms vs [] [] []
 | [],_,vs,_,_=> .nil
 |t::ts,ms,[],h,_=>by simp at h
 |t::ts,ms,v::vs,h,E9=>by
  refine .ro ?_ (D4.j8 (by simpa using h) λm hm=>E9 m (List.mem_of_mem_tail hm));cases ms with
  |nil=>rfl
  |cons m ms=>exact E9 m (by simp)
def uN(P:Program)(sg:BW)(f np:Nat)(r:AV):Bool:=
 match P.funcs[f]?,sg f with
 |some fn,some s=>fn.body.isSome&& !(fn.name== "runtime.NumGoroutine")&&Nq P fn s r&&s.c8.all (λm=>match m with| .ro=>true|_=>false)&&fn.params.size==np&&fn.nfree==0&&(s.ft.isEmpty&&s.lo.isEmpty)&&(match fn.resultTypes.toList with| [t]=> !FL P t s.res|_=>false)
 |_,_=>false
theorem zMk{f:Nat}{xs:List AV}{r:AV}(hk:uN Tryz.prog BQ f xs.length r=true)(hc:∀(w:World) (vs:List Value) (rf:List Nat),MS.K w->Rd w vs xs rf->Calls Tryz.prog f vs.toArray w λe w'=>Mod [] w w'/\ ∃v f1,e= .returned v/\Rd w' [v] [r] f1/\ ∀b∈f1,b∈rf\/w.heap.size<=b):Cp Tryz.prog BQ f xs r:=by
 unfold uN at hk;split at hk
 ·rename_i fn s hf hs;simp only[Ac,Bk,Az,Bd]at hk;obtain⟨⟨⟨⟨⟨⟨⟨h1,h2⟩,h3⟩,h4⟩,h5⟩,h6⟩,Cr⟩,h7⟩:=hk;obtain⟨Cr,Ca⟩:s.ft=[]/\s.lo=[]:=by simpa using Cr
  have Ez:∀m∈s.c8,m= .ro:=λm hm=>by
   have:=h4 m hm;split at this
   ·rfl
   ·cases this
  unfold Cp;rw[if_pos (Kw f s hs)];refine⟨s,hs,fn,hf,h1,h2,h3,by omega,by simp[Cr],λw vs rf lf A9 Am hd _ BX Ea=> ?_⟩;obtain⟨hr,rfl⟩:=Am.rd Ca Ez;refine(hc w vs rf Ea.2.1 hr).mono ?_;rintro e w' ⟨hm,v,f1,rfl,hv,hb⟩;refine⟨v,rfl,⟨⟨r,[],f1,[],[],[],rfl,?_,D4.j8 ?_ Ez,by simp,by simp,λb Cd=>⟨by simp,?_⟩⟩,hm⟩⟩
  ·unfold Lb;split at h7
   ·rename_i t ht;rw[ht];show DM Tryz.prog w' t s.res v r f1 [];unfold DM;rw[if_neg (by rw[Bool.not_eq_true];simpa using h7)];exact⟨hv,rfl⟩
   ·cases h7
  ·rw[hr.len];simp[Cr];omega
  ·rcases hb b (by simpa using Cd)with h|h
   ·exact .inl h
   ·exact .inr (.inr h)
 ·cases hk
theorem rY{f:Nat}{xs:List AV}{r:AV}(hk:uN Tryz.prog BQ f xs.length r=true)(hc:∀(w:World) (vs:List Value) (rf:List Nat),Rd w vs xs rf->Calls Tryz.prog f vs.toArray w λe w'=>Mod [] w w'/\ ∃v f1,e= .returned v/\Rd w' [v] [r] f1/\ ∀b∈f1,b∈rf\/w.heap.size<=b):Cp Tryz.prog BQ f xs r:=
 zMk hk λw vs rf _ hr=>hc w vs rf hr
theorem NJ{w:World}{s:List UInt8}{vs:List Value}{xs:List AV}{f:List Nat}(h:Rd w vs (.str s::xs) f):∃(b:ByteArray) (us:List Value),vs= .string b::us/\b.data.toList=s/\b.size<=9223372036854775807/\Rd w us xs f:=by
 cases h with
 |str a h=>exact⟨_,_,rfl,rfl,a,h⟩
theorem Pj{w:World}{k:IntKind}{n:Int}{vs:List Value}{xs:List AV}{f:List Nat}(h:Rd w vs (.int k n::xs) f):∃us:List Value,vs= .int k n::us/\FO k n/\Rd w us xs f:=by
 cases h with
 |int a h=>exact⟨_,rfl,a,h⟩
theorem Ln{w:World}{vs:List Value}{f:List Nat}(h:Rd w vs [] f):vs=[]/\f=[]:=by cases h;exact⟨rfl,rfl⟩
end Go.Proofs.YtlmjpjceiefpoaaGreat
end
section
namespace Go.Proofs
open Go.Shelf
def Tryz.ic:Go.Shelf.Ren:=⟨λ|156=>323|165=>355|166=>356|169=>357|240=>382|241=>383|276=>410|277=>411|n=>n,λ|31=>26|9=>9|3=>3|4=>4|0=>0|20=>20|72=>420|76=>424|70=>418|37=>180|75=>423|127=>449|164=>470|5=>5|80=>426|n=>n,λ|n=>n⟩
theorem Tryz.kj:Go.Proofs.Lays.n156 Tryz.prog Tryz.ic:={
 mixed:=by kernel_rfl
 f156:=Tryz.func323.trans (congrArg some (by kernel_rfl))
 f165:=Tryz.func355.trans (congrArg some (by kernel_rfl))
 f166:=Tryz.func356.trans (congrArg some (by kernel_rfl))
 f169:=Tryz.func357.trans (congrArg some (by kernel_rfl))
 f240:=Tryz.func382.trans (congrArg some (by kernel_rfl))
 f241:=Tryz.func383.trans (congrArg some (by kernel_rfl))
 f276:=Tryz.func410.trans (congrArg some (by kernel_rfl))
 f277:=Tryz.func411.trans (congrArg some (by kernel_rfl))
 t0:=Tryz.underlying0
 a0:=Tryz.isAgg0
 z0:=Tryz.sizeOf0
 v0:=Tryz.zeroValue0
 t3:=Tryz.underlying3
 a3:=Tryz.isAgg3
 z3:=Tryz.sizeOf3
 v3:=Tryz.zeroValue3
 t4:=Tryz.underlying4
 a4:=Tryz.isAgg4
 z4:=Tryz.sizeOf4
 v4:=Tryz.zeroValue4
 t9:=Tryz.underlying9
 a9:=Tryz.isAgg9
 z9:=Tryz.sizeOf9
 v9:=Tryz.zeroValue9
 t20:=Tryz.underlying20
 a20:=Tryz.isAgg20
 z20:=Tryz.sizeOf20
 v20:=Tryz.zeroValue20
 t31:=Tryz.underlying26
 a31:=Tryz.isAgg26
 z31:=Tryz.sizeOf26
 v31:=Tryz.zeroValue26
 t37:=Tryz.underlying180
 a37:=Tryz.isAgg180
 z37:=Tryz.sizeOf180
 v37:=Tryz.zeroValue180
 t70:=Tryz.underlying418
 a70:=Tryz.isAgg418
 z70:=Tryz.sizeOf418
 v70:=Tryz.zeroValue418
 t72:=Tryz.underlying420
 a72:=Tryz.isAgg420
 z72:=Tryz.sizeOf420
 v72:=Tryz.zeroValue420
 t75:=Tryz.underlying423
 a75:=Tryz.isAgg423
 z75:=Tryz.sizeOf423
 v75:=Tryz.zeroValue423
 t76:=Tryz.underlying424
 a76:=Tryz.isAgg424
 z76:=Tryz.sizeOf424
 v76:=Tryz.zeroValue424
 t127:=Tryz.underlying449
 a127:=Tryz.isAgg449
 z127:=Tryz.sizeOf449
 v127:=Tryz.zeroValue449
 t164:=Tryz.underlying470
 a164:=Tryz.isAgg470
 z164:=Tryz.sizeOf470
 v164:=Tryz.zeroValue470}
theorem Tryz.fh:Builder.Extra Tryz.prog Tryz.ic:={
 sizeBuilder:=by kernel_rfl
 liesBuilder:=by kernel_rfl
 t5:=Tryz.underlying5
 a5:=Tryz.isAgg5
 z5:=Tryz.sizeOf5
 v5:=Tryz.zeroValue5
 infoByte:=by kernel_rfl
 cellsByte:=by kernel_rfl
 sizeByte:=by kernel_rfl
 neB5:=by decide}
open Go.RowKit in
theorem Tryz.strings_Join_none(a:Option Addr)(c:Nat)(sep:ByteArray)(w:World):
  Calls Tryz.prog 323 #[.slice a 0 c, .string sep] w λe w'=>e= .returned (.string ⟨#[]⟩)/\w'=w:=Any.strings_Join_none Tryz.kj Tryz.fh a c sep w
open Go.RowKit in
theorem Tryz.strings_Join(bk o c:Nat)(xs:List ByteArray)(sep:ByteArray)(w:World)(Py:∀(j:Nat) x,xs[j]?=some x->w.cell? ⟨bk,o+j,none⟩=some (.string x))(J9:bk<w.heap.size)(hN:xs.length<=140737488355328)(FG:xs.length<=c)(hlen:(Lib.join (xs.map (·.data.toList)) sep.data.toList).length<=140737488355328):
  Calls Tryz.prog 323 #[.slice (some ⟨bk,o,none⟩) xs.length c, .string sep] w λe w'=>e= .returned (.string ⟨(Lib.join (xs.map (·.data.toList)) sep.data.toList).toArray⟩)/\Below w.heap.size w w':=Any.strings_Join Tryz.kj Tryz.fh bk o c xs sep w Py J9 hN FG hlen
def Tryz.nd:Go.Shelf.Ren:=⟨λ|137=>275|217=>327|266=>366|n=>n,λ|9=>9|5=>5|3=>3|n=>n,λ|n=>n⟩
def Tryz.jg:Go.Shelf.Ren:=⟨λ|217=>327|266=>366|n=>n,λ|9=>9|5=>5|3=>3|n=>n,λ|n=>n⟩
theorem Tryz.mi:Go.Proofs.Lays.n217 Tryz.prog Tryz.jg:={
 mixed:=by kernel_rfl
 f217:=Tryz.func327.trans (congrArg some (by kernel_rfl))
 f266:=Tryz.func366.trans (congrArg some (by kernel_rfl))
 t3:=Tryz.underlying3
 a3:=Tryz.isAgg3
 z3:=Tryz.sizeOf3
 v3:=Tryz.zeroValue3
 t5:=Tryz.underlying5
 a5:=Tryz.isAgg5
 z5:=Tryz.sizeOf5
 v5:=Tryz.zeroValue5
 t9:=Tryz.underlying9
 a9:=Tryz.isAgg9
 z9:=Tryz.sizeOf9
 v9:=Tryz.zeroValue9}
open Go.RowKit Go.Lib in
theorem Tryz.stringslite_IndexByte(s:ByteArray)(c:Int)(w:World):
  Calls Tryz.prog 327 #[.string s, .int .u8 c] w λe w'=>e= .returned (.int .i64 (Lib.indexByte s.data.toList c.toNat.toUInt8))/\w'=w:=Any.stringslite_IndexByte Tryz.mi s c w
def Tryz.jj:Go.Shelf.Ren:=⟨λ|219=>273|217=>327|225=>328|224=>329|267=>330|266=>366|314=>367|n=>n,λ|9=>9|3=>3|4=>4|5=>5|46=>166|146=>432|51=>272|n=>n,λ|1=>0|n=>n⟩
theorem Tryz.mf:Go.Proofs.Lays.n219 Tryz.prog Tryz.jj:={
 mixed:=by kernel_rfl
 f217:=Tryz.func327.trans (congrArg some (by kernel_rfl))
 f219:=Tryz.func273.trans (congrArg some (by kernel_rfl))
 f224:=Tryz.func329.trans (congrArg some (by kernel_rfl))
 f225:=Tryz.func328.trans (congrArg some (by kernel_rfl))
 f266:=Tryz.func366.trans (congrArg some (by kernel_rfl))
 f267:=Tryz.func330.trans (congrArg some (by kernel_rfl))
 f314:=Tryz.func367.trans (congrArg some (by kernel_rfl))
 t3:=Tryz.underlying3
 a3:=Tryz.isAgg3
 z3:=Tryz.sizeOf3
 v3:=Tryz.zeroValue3
 t4:=Tryz.underlying4
 a4:=Tryz.isAgg4
 z4:=Tryz.sizeOf4
 v4:=Tryz.zeroValue4
 t5:=Tryz.underlying5
 a5:=Tryz.isAgg5
 z5:=Tryz.sizeOf5
 v5:=Tryz.zeroValue5
 t9:=Tryz.underlying9
 a9:=Tryz.isAgg9
 z9:=Tryz.sizeOf9
 v9:=Tryz.zeroValue9
 t46:=Tryz.underlying166
 a46:=Tryz.isAgg166
 z46:=Tryz.sizeOf166
 v46:=Tryz.zeroValue166
 t51:=Tryz.underlying272
 a51:=Tryz.isAgg272
 z51:=Tryz.sizeOf272
 v51:=Tryz.zeroValue272
 t146:=Tryz.underlying432
 a146:=Tryz.isAgg432
 z146:=Tryz.sizeOf432
 v146:=Tryz.zeroValue432
 g1:=by kernel_rfl}
open Go.RowKit Go.Lib in
theorem Tryz.stringslite_Index_one(s:ByteArray)(c:UInt8)(w:World):
  Calls Tryz.prog 273 #[.string s, .string ⟨#[c]⟩] w λe w'=>e= .returned (.int .i64 (Lib.indexByte s.data.toList c))/\w'=w:=Any.stringslite_Index_one Tryz.mf s c w
def Tryz.jr:Go.Shelf.Ren:=⟨λ|190=>36|125=>93|258=>92|128=>188|129=>189|302=>179|303=>180|304=>181|305=>182|306=>183|307=>184|308=>185|309=>186|310=>187|333=>276|329=>277|330=>278|334=>279|335=>280|336=>281|344=>331|n=>n,λ|31=>26|9=>9|3=>3|46=>166|0=>0|51=>272|53=>274|4=>4|183=>266|182=>265|131=>123|5=>5|218=>349|222=>353|228=>394|229=>395|n=>n,λ|n=>n⟩
theorem Tryz.kp:Go.Proofs.Lays.n190 Tryz.prog Tryz.jr:={
 mixed:=by kernel_rfl
 f125:=Tryz.func93.trans (congrArg some (by kernel_rfl))
 f128:=Tryz.func188.trans (congrArg some (by kernel_rfl))
 f129:=Tryz.func189.trans (congrArg some (by kernel_rfl))
 f190:=Tryz.func36.trans (congrArg some (by kernel_rfl))
 f258:=Tryz.func92.trans (congrArg some (by kernel_rfl))
 f302:=Tryz.func179.trans (congrArg some (by kernel_rfl))
 f303:=Tryz.func180.trans (congrArg some (by kernel_rfl))
 f304:=Tryz.func181.trans (congrArg some (by kernel_rfl))
 f305:=Tryz.func182.trans (congrArg some (by kernel_rfl))
 f306:=Tryz.func183.trans (congrArg some (by kernel_rfl))
 f307:=Tryz.func184.trans (congrArg some (by kernel_rfl))
 f308:=Tryz.func185.trans (congrArg some (by kernel_rfl))
 f309:=Tryz.func186.trans (congrArg some (by kernel_rfl))
 f310:=Tryz.func187.trans (congrArg some (by kernel_rfl))
 f329:=Tryz.func277.trans (congrArg some (by kernel_rfl))
 f330:=Tryz.func278.trans (congrArg some (by kernel_rfl))
 f333:=Tryz.func276.trans (congrArg some (by kernel_rfl))
 f334:=Tryz.func279.trans (congrArg some (by kernel_rfl))
 f335:=Tryz.func280.trans (congrArg some (by kernel_rfl))
 f336:=Tryz.func281.trans (congrArg some (by kernel_rfl))
 f344:=Tryz.func331.trans (congrArg some (by kernel_rfl))
 t0:=Tryz.underlying0
 a0:=Tryz.isAgg0
 z0:=Tryz.sizeOf0
 v0:=Tryz.zeroValue0
 t3:=Tryz.underlying3
 a3:=Tryz.isAgg3
 z3:=Tryz.sizeOf3
 v3:=Tryz.zeroValue3
 t4:=Tryz.underlying4
 a4:=Tryz.isAgg4
 z4:=Tryz.sizeOf4
 v4:=Tryz.zeroValue4
 t5:=Tryz.underlying5
 a5:=Tryz.isAgg5
 z5:=Tryz.sizeOf5
 v5:=Tryz.zeroValue5
 t9:=Tryz.underlying9
 a9:=Tryz.isAgg9
 z9:=Tryz.sizeOf9
 v9:=Tryz.zeroValue9
 t31:=Tryz.underlying26
 a31:=Tryz.isAgg26
 z31:=Tryz.sizeOf26
 v31:=Tryz.zeroValue26
 t46:=Tryz.underlying166
 a46:=Tryz.isAgg166
 z46:=Tryz.sizeOf166
 v46:=Tryz.zeroValue166
 t51:=Tryz.underlying272
 a51:=Tryz.isAgg272
 z51:=Tryz.sizeOf272
 v51:=Tryz.zeroValue272
 t53:=Tryz.underlying274
 a53:=Tryz.isAgg274
 z53:=Tryz.sizeOf274
 v53:=Tryz.zeroValue274
 t131:=Tryz.underlying123
 a131:=Tryz.isAgg123
 z131:=Tryz.sizeOf123
 v131:=Tryz.zeroValue123
 t182:=Tryz.underlying265
 a182:=Tryz.isAgg265
 z182:=Tryz.sizeOf265
 v182:=Tryz.zeroValue265
 t183:=Tryz.underlying266
 a183:=Tryz.isAgg266
 z183:=Tryz.sizeOf266
 v183:=Tryz.zeroValue266
 t218:=Tryz.underlying349
 a218:=Tryz.isAgg349
 z218:=Tryz.sizeOf349
 v218:=Tryz.zeroValue349
 t222:=Tryz.underlying353
 a222:=Tryz.isAgg353
 z222:=Tryz.sizeOf353
 v222:=Tryz.zeroValue353
 t228:=Tryz.underlying394
 a228:=Tryz.isAgg394
 z228:=Tryz.sizeOf394
 v228:=Tryz.zeroValue394
 t229:=Tryz.underlying395
 a229:=Tryz.isAgg395
 z229:=Tryz.sizeOf395
 v229:=Tryz.zeroValue395}
open Go.Sort Go.RowKit in
theorem Tryz.slices_Sort_string(blk off cap:Nat)(ss:List (List UInt8))(w:World)(hH:Holds encStr w blk off ss.toArray)(Mx:blk<w.heap.size)(BI:ss.length<4611686018427387904):
  Calls Tryz.prog 36 #[.slice (some ⟨blk,off,none⟩) ss.length cap] w λe w'=>
   e= .returned (.tuple #[])/\ ∃n os,w'=grow (putRow encStr (Sort.ahead w n) blk off (ss.mergeSort λx y=>decide (x<=y)).toArray) os:=Any.slices_Sort_string Tryz.kp blk off cap ss w hH Mx BI
def Tryz.jq:Go.Shelf.Ren:=⟨λ|194=>424|n=>n,λ|31=>26|9=>9|3=>3|4=>4|0=>0|n=>n,λ|n=>n⟩
theorem Tryz.kq:Go.Proofs.Lays.n194 Tryz.prog Tryz.jq:={
 mixed:=by kernel_rfl
 f194:=Tryz.func424.trans (congrArg some (by kernel_rfl))
 t0:=Tryz.underlying0
 a0:=Tryz.isAgg0
 z0:=Tryz.sizeOf0
 v0:=Tryz.zeroValue0
 t3:=Tryz.underlying3
 a3:=Tryz.isAgg3
 z3:=Tryz.sizeOf3
 v3:=Tryz.zeroValue3
 t4:=Tryz.underlying4
 a4:=Tryz.isAgg4
 z4:=Tryz.sizeOf4
 v4:=Tryz.zeroValue4
 t9:=Tryz.underlying9
 a9:=Tryz.isAgg9
 z9:=Tryz.sizeOf9
 v9:=Tryz.zeroValue9
 t31:=Tryz.underlying26
 a31:=Tryz.isAgg26
 z31:=Tryz.sizeOf26
 v31:=Tryz.zeroValue26}
open Go.RowKit Go.Lib Go.Sort in
theorem Tryz.slices_Compact_string(blk off cap:Nat)(zs:List (List UInt8))(w:World)(hH:Holds encStr w blk off zs.toArray)(BI:zs.length<=9223372036854775807)(FG:zs.length<=cap):
  Calls Tryz.prog 424 #[.slice (some ⟨blk,off,none⟩) zs.length cap] w λe w'=>e= .returned (.slice (some ⟨blk,off,none⟩) (Lib.compact zs).length cap)/\ ∃q,w'=putRow encStr (Sort.ahead w q) blk off (Lib.compact zs++List.replicate (zs.length-(Lib.compact zs).length) []).toArray:=Any.slices_Compact_string Tryz.kq blk off cap zs w hH BI FG
open Go.RowKit Go.Lib Go.Sort in
theorem Tryz.slices_Compact_string_empty(a:Option Addr)(cap:Nat)(w:World):
  Calls Tryz.prog 424 #[.slice a 0 cap] w λe w'=>e= .returned (.slice a 0 cap)/\w'=w:=Any.slices_Compact_string_empty Tryz.kq a cap w
open Go.RowKit Go.Sort in
theorem Tryz.slices_Sort_string_none(p:Option Addr)(cap:Nat)(w:World):
  Calls Tryz.prog 36 #[.slice p 0 cap] w λe w'=>e= .returned (.tuple #[])/\w'=w:=Any.slices_Sort_string_none Tryz.kp p cap w
end Go.Proofs
end
section
namespace Go.Proofs.YtlmjpjceiefpoaaGreat
open Go.RowKit
set_option maxRecDepth 100000
theorem zql:∀(l:List UInt8) (c:UInt8), -1<=Lib.indexByte l c/\Lib.indexByte l c<l.length\/Lib.indexByte l c= -1
 | [],_=> .inr rfl
 |b::l,c=>by
  unfold Lib.indexByte;rcases zql l c with h|h
  ·split
   ·left;simp
   ·split
    ·exact .inr rfl
    ·left;rw[AE];omega
  ·rw[h];split
   ·left;simp
   ·right;rfl
theorem zFH{n:Int}(h1: -9223372036854775808<=n)(h2:n<=9223372036854775807):FO .i64 n:=Cv h1 h2
theorem zQO{b:ByteArray}{c:UInt8}(h:b.data.toList=[c]):b=⟨#[c]⟩:=by
 cases b with
 |mk d=>cases d with
  |mk l=>simp at h;rw[h]
def bU(s:List UInt8)(c:Int):Option Int:=some (Lib.indexByte s c.toNat.toUInt8)
theorem zke(a0:List UInt8)(a1 r:Int)(h:bU a0 a1=some r):Cp Tryz.prog BQ 327 [.str a0, .int .u8 a1] (.int .i64 r):=rY (by kernel_rfl) λw vs rf hr=>by
 obtain⟨b,us,rfl,rfl,hb,hr⟩:=NJ hr;obtain⟨us1,rfl,_,hr⟩:=Pj hr;obtain⟨rfl,rfl⟩:=Ln hr;refine(Tryz.stringslite_IndexByte b a1 w).mono ?_;rintro e w' ⟨rfl,rfl⟩;cases h;have hl:b.data.toList.length<=9223372036854775807:=by rw[BL];exact hb
 exact⟨Mod.refl [] _,_,[],rfl, .int (by rcases zql b.data.toList a1.toNat.toUInt8 with h|h<;>exact zFH (by omega) (by omega)) .nil,by simp⟩
def cA(s sub:List UInt8):Option Int:=match sub with| [c]=>some (Lib.indexByte s c)|_=>none
theorem zmx(a0 a1:List UInt8)(r:Int)(h:cA a0 a1=some r):Cp Tryz.prog BQ 273 [.str a0, .str a1] (.int .i64 r):=rY (by kernel_rfl) λw vs rf hr=>by
 obtain⟨b,us,rfl,rfl,hb,hr⟩:=NJ hr;obtain⟨b1,us1,rfl,h1,_,hr⟩:=NJ hr;obtain⟨rfl,rfl⟩:=Ln hr
 match a1,h,h1 with
 | [c],h,h1=>
  have:=zQO h1;subst this;refine(Tryz.stringslite_Index_one b c w).mono ?_;rintro e w' ⟨rfl,rfl⟩;cases h;have hl:b.data.toList.length<=9223372036854775807:=by rw[BL];exact hb
  exact⟨Mod.refl [] _,_,[],rfl, .int (by rcases zql b.data.toList c with h|h<;>exact zFH (by omega) (by omega)) .nil,by simp⟩
 | [],h,_=>cases h
 |_::_::_,h,_=>cases h
noncomputable def gL(xs:List (List UInt8))(sep:List UInt8):Option (List UInt8):=Ax (xs.length<=140737488355328/\(Lib.join xs sep).length<=140737488355328) (some (Lib.join xs sep))
theorem jZ{w:World}:∀{cs:List Value} {xs:List (List UInt8)} {f:List Nat},Rd w cs (AA (xs.map CC)) f-> ∃bs:List ByteArray,cs=bs.map Value.string/\bs.map (·.data.toList)=xs
 |cs,[],f,h=>by obtain⟨rfl,_⟩:=Ln (by simpa[AA]using h);exact⟨[],rfl,rfl⟩
 |cs,x::xs,f,h=>by
  have h':Rd w cs (.str x::AA (xs.map CC)) f:=by simpa[AA]using h
  obtain⟨b,us,rfl,rfl,_,h2⟩:=NJ h';obtain⟨bs,rfl,rfl⟩:=jZ h2;exact⟨b::bs,rfl,rfl⟩
theorem zzr(a0:List (List UInt8))(a1 r:List UInt8)(h:gL a0 a1=some r):Cp Tryz.prog BQ 323 [.sl (a0.map CC), .str a1] (.str r):=rY (by kernel_rfl) λw vs rf hr=>by
 obtain⟨⟨Hr,FT⟩,h⟩:=F8 h;cases h;generalize hx:a0.map CC=ys at hr;cases hr with
 |gl hr=>
  obtain⟨b1,us1,rfl,rfl,_,hr⟩:=NJ hr;obtain⟨rfl,rfl⟩:=Ln hr;have:a0=[]:=by simpa using hx
  subst this;refine(Tryz.strings_Join_none _ _ b1 w).mono ?_;rintro e w' ⟨rfl,rfl⟩;exact⟨Mod.refl [] _,_,[],rfl, .str (by simp[ByteArray.size]) .nil,by simp⟩
 |scons hb h1 h2 h3 h4 h5 h6 H5 h7 hr=>
  rename_i bk o n c cs C t fz sz f1 vs f;obtain⟨b1,us1,rfl,rfl,_,hr⟩:=NJ hr;obtain⟨rfl,rfl⟩:=Ln hr;subst hx;obtain⟨bs,rfl,rfl⟩:=jZ h7;have hn:n=bs.length:=by simpa using h3.symm
  subst hn;have J9:bk<w.heap.size:=Dm hb;refine(Tryz.strings_Join bk o c bs b1 w (λj x hx=> ?_) J9 (by simpa using Hr) h2.2 FT).mono ?_
  ·have:=h6 j (.string x) (by simp[hx]);rw[EO hb];exact this
  ·rintro e w' ⟨rfl,nB⟩;exact⟨.jd nB (AF _),_,[],rfl, .str (by simp[ByteArray.size];omega) .nil,by simp⟩
theorem jA{P:Program}(w:World)(dT sT ty elem:TypeId)(k:Nat)(g o dLen dCap:Nat)(a:Addr)(sLen sCap:Nat)(cur:Array Value)(t:TypeId)(cs:List Value)
  (hu:P.underlying dT=some (.slice elem)) (hs:(P.info? elem).map (·.size)=some k)
  (hg:w.heap[g]?=some (.cells cur t (0,0))) (hn:cs.length=Nat.min sLen dLen*k)
  (DA:∀j v,cs[j]?=some v->w.cell? (a.add j)=some v) (Ic:o+cs.length<=cur.size) (h1:∀v∈cs,v.oneCell'=true):
  (Builtin.copy_ #[dT,sT] ty #[.slice (some ⟨g,o,none⟩) dLen dCap, .slice (some a) sLen sCap]).run P w=
   .ok (goInt (Nat.min sLen dLen)) (w.setRow g (cur.toList.take o++cs++cur.toList.drop (o+cs.length)).toArray):=by
 have hl:=run_loadCells_list (P:=P) w a cs DA;have FI:=run_storeCells_at P g o t cs 0 cur w hg (by simpa using Ic) h1;cases hq:P.info? elem with
 |none=>simp[hq]at hs
 |some i=>
  have hi:i.size=k:=by simpa[hq]using hs
  rw[hn]at hl;simp[Builtin.copy_,run_underlying hu,Builtin.lenOf,Builtin.firstCells,sizeOf,typeInfo,hq,hi,hl,FI]
theorem zpv{P:Program}(w:World){ops:Array Oper}{rest:List Oper}{o:Oper}{a:Act}{Q:Exit->Act->World->Prop}(Rw:o.guard=none)(d s:Operand)(t t':TypeId)
  (ho:o.op= .call {callee:= .builtin .copy,args:= #[d,s],argTypes:= #[t,t']}) (v u:Value) (hd:a.eval d=v) (hs:a.eval s=u) {v':Value} {w':World}
  (hr:(Builtin.copy_ #[t,t'] o.type #[v,u]).run P w= .ok v' w') (h:wpList P ops Q rest (a.put o.dst v') w'):wpList P ops Q (o::rest) a w:=
 wpList_plain Rw λ_ hK=>by unfold Oper.wp execOp;simp only[ho,resolve,invoke,builtin,Sem.run_bind,Sem.run_pure,Result.andThen_ok,List.map_toArray,List.map_cons,List.map_nil,hd,hs,hr];exact hK _ _ h
theorem zys{P:Program}{ops:Array Oper}{o:Oper}{a:Act}{w:World}{K:Act->World->Prop}{Q:Exit->Act->World->Prop}{E:Prop}
  (hg:o.guard=none) (d x:Operand) (dT sT:TypeId) (AY:o.op=Op.call {callee:=Callee.builtin Builtin.copy,args:= #[d,x],argTypes:= #[dT,sT]})
  (v u:Value) (hd:a.eval d=v) (hx:a.eval x=u) {v':Value} {w':World} (hr:(Builtin.copy_ #[dT,sT] o.type #[v,u]).run P w= .ok v' w') (hK:K (a.put o.dst v') w'):
  if Region.wanted o (yielded ops a.tmps)=true then Oper.wp P o a w K Q else E:=by
 have hw:Region.wanted o (yielded ops a.tmps)=true:=by simp[Region.wanted,hg]
 rw[if_pos hw];unfold Oper.wp;simp[execOp,AY,resolve,invoke,builtin,hd,hx,hr,Result.andThen];exact hK
def Du(w:World)(el:TypeId)(k:Nat)(g cap:Nat)(C:Array Value)(n:Nat)(cs:List Value):Prop:=
 n<=cap/\cap<=maxLen/\w.heap[g]?=some (.cells C el (0,0))/\C.size=cap*k/\cs=C.toList.take (n*k)
def Qo(w w':World)(el:TypeId)(k:Nat)(own:List Nat)(v:Value)(n:Nat)(cs:List Value):Prop:=
 ∃g cap C,v= .slice (some ⟨g,0,none⟩) n cap/\Du w' el k g cap C n cs/\Mod own w w'/\(g∈own\/w.heap.size<=g)
def Lu(P:Program)(f:Nat)(el:TypeId)(k:Nat):Prop:=
 ∀(w:World) (v:Value) (n i:Nat) (cs:List Value) (own:List Nat) (vb vc m:Nat) (VC:Array Value) (vs:List Value),cs.length=n*k->
  ((n=0/\ ∃q,v= .slice q 0 0)\/ ∃g cap C,v= .slice (some ⟨g,0,none⟩) n cap/\Du w el k g cap C n cs/\g∈own)->i<=n->Du w el k vb vc VC m vs->(∀g∈own,vb≠g)->0<m->(n+m)*1000<=140737488355328->
  (∀u∈vs,u.oneCell'=true)->(∀u∈cs,u.oneCell'=true)->
  Calls P f #[v, .int .i64 i, .slice (some ⟨vb,0,none⟩) m vc] w λe w'=> ∃u,e= .returned u/\Qo w w' el k own u (n+m) (cs.take (i*k)++vs++cs.drop (i*k))
theorem Du.cell{w:World}{el:TypeId}{k g cap:Nat}{C:Array Value}{n:Nat}{cs:List Value}(h:Du w el k g cap C n cs)(off j:Nat)(v:Value)(hj:(cs.drop off)[j]?=some v):w.cell? ((⟨g,off,none⟩:Addr).add j)=some v:=by
 obtain⟨_,_,h3,_,h5⟩:=h;rw[Addr.add_lit,EO h3];rw[List.getElem?_drop,h5,List.getElem?_take]at hj;split at hj
 ·simpa using hj
 ·cases hj
theorem Du.len{w:World}{el:TypeId}{k g cap:Nat}{C:Array Value}{n:Nat}{cs:List Value}(h:Du w el k g cap C n cs):cs.length=n*k:=by obtain⟨h1,_,_,h4,h5⟩:=h;have:=By k h1;rw[h5,AI,BL];omega
theorem zQP{α:Type}(cur cs vs:List α)(i m n:Nat)(hc:cs=cur.take n)(hi:i<=n)(hv:vs.length=m)(hn:n+m<=cur.length):
  let c1:=cur.take (i+m)++cs.drop i++cur.drop (i+m+(cs.drop i).length)
  (c1.take i++vs++c1.drop (i+vs.length)).take (n+m)=cs.take i++vs++cs.drop i:=by
 have AG:cs.length=n:=by rw[hc,AI];omega
 have hd:(cs.drop i).length=n-i:=by rw[Br,AG]
 intro c1;have e1:c1.take i=cs.take i:=by show(cur.take (i+m)++cs.drop i++_).take i=_;rw[List.append_assoc,List.take_append_of_le_length (by rw[AI];omega),List.take_take,hc,List.take_take];congr 1;omega
 have e2:c1.drop (i+vs.length)=cs.drop i++cur.drop (i+m+(cs.drop i).length):=by show(cur.take (i+m)++cs.drop i++_).drop _=_;rw[List.append_assoc,List.drop_append_of_le_length (by rw[AI,hv];omega),List.drop_eq_nil_of_le (by rw[AI,hv];omega),List.nil_append]
 rw[e1,e2];have l1:(cs.take i++vs++cs.drop i).length=n+m:=by simp only[Aq,AI,hv,hd,AG];omega
 rw[<-List.append_assoc,<-l1,List.take_left]
theorem two{α:Type}(zs cs vs:List α)(i m n:Nat)(cur:List α)(nJ:cur=cs.take i++zs)(AG:cs.length=n)(hi:i<=n)(hv:vs.length=m)(hz:n+m-i<=zs.length):
  let c1:=cur.take i++vs++cur.drop (i+vs.length)
  (c1.take (i+m)++cs.drop i++c1.drop (i+m+(cs.drop i).length)).take (n+m)=cs.take i++vs++cs.drop i:=by
 have ht:(cs.take i).length=i:=by rw[AI];omega
 intro c1;have e1:c1=cs.take i++vs++cur.drop (i+vs.length):=by show cur.take i++vs++cur.drop (i+vs.length)=_;rw[nJ];congr 2;rw[List.take_append_of_le_length (by omega),List.take_take,Nat.min_self]
 have e2:c1.take (i+m)=cs.take i++vs:=by
  have l2:(cs.take i++vs).length=i+m:=by rw[Aq,ht,hv]
  rw[e1,<-l2,List.take_left]
 rw[e2];have l1:(cs.take i++vs++cs.drop i).length=n+m:=by simp only[Aq,ht,hv,Br,AG];omega
 rw[<-l1,List.take_left]
theorem O1(xs ys:List AV):AA (xs++ys)=AA xs++AA ys:=by simp[AA]
theorem QX{K:Nat}{xs:List AV}(h:∀y∈xs,y.cells.length=K){i:Nat}(hi:i<=xs.length):AA (xs.take i)=(AA xs).take (i*K)/\AA (xs.drop i)=(AA xs).drop (i*K):=by
 have l1:(AA (xs.take i)).length=i*K:=by rw[Li _ λy hy=>h y (BD hy),AI,Nat.min_eq_left hi]
 have e:AA xs=AA (xs.take i)++AA (xs.drop i):=by rw[<-O1,B6]
 rw[e,<-l1,List.take_left,List.drop_left];exact⟨rfl,rfl⟩
theorem Df.mg{w:World}{el K:Nat}{v:Value}{x:AV}{top:List Nat}(h:Df w el K v x top []):∃xs cs,x= .sl xs/\0<K/\(∀y∈xs,y.cells.length=K)/\cs.length=xs.length*K/\Rd w cs (AA xs) []/\(∀u∈cs,u.oneCell'=true)/\
  ((xs=[]/\top=[]/\ ∃q,v= .slice q 0 0)\/ ∃g cap C,v= .slice (some ⟨g,0,none⟩) xs.length cap/\Du w el K g cap C xs.length cs/\top=[g]):=by
 obtain⟨xs,rfl,h2,h3,⟨rfl,⟨a,hv⟩,rfl,_⟩|⟨g,cap,C,rfl,h6,h7,h8,h9,rfl,E1,EE⟩⟩:=h
 ·exact⟨[],[],rfl,h3,h2,by simp,by simpa[AA]using Rd.nil,by simp, .inl ⟨rfl,rfl,a,hv⟩⟩
 ·exact⟨xs,_,rfl,h3,h2,(Du.len ⟨h6,h7,h8,h9,rfl⟩),EE,E1, .inr ⟨g,cap,C,rfl,⟨h6,h7,h8,h9,rfl⟩,rfl⟩⟩
theorem kX{P:Program}{w:World}{t el:TypeId}{v:Value}{x:AV}{rf hs:List Nat}(ha:Ar P t=false)(hl:Bc P t=[t])(he:CK P t=some el)(hf:Ch P el=true)(h:MY P w t [true] v x rf hs):rf=[]/\Df w el (P.cellsOf el) v x hs []:=by
 obtain⟨us,ys,h1,h2⟩:=h;rw[ha]at h1;simp only[A6,if_false]at h1;obtain⟨rfl,rfl⟩:=h1;rw[hl]at h2;cases h2 with
 |own q1 q2 q3 q4 q5=>
  cases q5;rw[he]at q2;cases q2;rcases q3 with⟨_,rfl⟩|⟨h,_⟩
  ·exact⟨rfl,by simpa using q4⟩
  ·rw[hf]at h;cases h
 |deep q1 q2 q3=>rw[he]at q2;cases q2;rw[hf]at q3;cases q3
 |rd q1=>have:=q1 rfl;rw[he]at this;cases this
def uT(P:Program)(sg:BW)(f:Nat)(t it el K:Nat):Bool:=
 match P.funcs[f]?,sg f with
 |some fn,some s=>(match s.c8,s.res,s.ft,s.lo with
  | [.va [true], .ro, .va [true]],[true],[],[]=>true
  |_,_,_,_=>false)&&fn.body.isSome&& !(fn.name== "runtime.NumGoroutine")&&fn.params.toList==[t,it,t]&&fn.resultTypes.toList==[t]&&fn.nfree==0&& !Ar P t&&Bc P t==[t]&&CK P t==some el&&Ch P el&&P.cellsOf el==K&&FL P t [true]&&fn.params.size==3
 |_,_=>false
def HX(P:Program)(sg:BW)(f:Nat)(r:List AV):Bool:=match P.funcs[f]?,sg f with
 |some fn,some s=>Nq P fn s (.sl r)
 |_,_=>false
theorem zOh{f t it el K:Nat}(hk:uT Tryz.prog BQ f t it el K=true)(Ci:∀r,HX Tryz.prog BQ f r=true)(D8:Lu Tryz.prog f el K)(xs ys:List AV)(i:Int)(h0:0<=i)(h1:i<=xs.length)(hy:ys≠ [])(hb:(xs.length+ys.length)*1000<=140737488355328):
  Cp Tryz.prog BQ f [.sl xs, .int .i64 i, .sl ys] (.sl (xs.take i.toNat++ys++xs.drop i.toNat)):=by
 unfold uT at hk;split at hk
 ·rename_i fn s hf hs;simp only[Ac,Bk,Az]at hk;obtain⟨⟨⟨⟨⟨⟨⟨⟨⟨⟨⟨⟨g1,g2⟩,g3⟩,g4⟩,g5⟩,g6⟩,g7⟩,g8⟩,g9⟩,g10⟩,g11⟩,g12⟩,g13⟩:=hk;obtain⟨hm,hr,Cr,Ca⟩:s.c8=[.va [true], .ro, .va [true]]/\s.res=[true]/\s.ft=[]/\s.lo=[]:=by
   split at g1
   ·rename_i a b c d;exact⟨a,b,c,d⟩
   ·cases g1
  unfold Cp;rw[if_pos (Kw f s hs)];refine⟨s,hs,fn,hf,g2,g3,by have:=Ci (xs.take i.toNat++ys++xs.drop i.toNat);unfold HX at this;rw[hf,hs]at this;exact this,by simp[g6,g13],by simp[Cr],λw vs rf lf A9 Am hd _ BX Ea=> ?_⟩;rw[g4,Cr,AH,hm,Ca]at Am;cases Am with
  |lent h _ _ _=>cases h
  | @cons _ _ _ _ v1 vs1 _ _ f1 k1 rf1 lf1 BN a1 Am=>
   cases Am with
   |lent h _ _ _=>cases h
   | @cons _ _ _ _ v2 vs2 _ _ f2 k2 rf2 lf2 Ba a2 Am=>
    cases Am with
    |lent h _ _ _=>cases h
    | @cons _ _ _ _ v3 vs3 _ _ f3 k3 rf3 lf3 FY a3 Am=>
     cases Am;obtain⟨rfl,r1⟩:=kX g7 g8 g9 g10 a1;obtain⟨rfl,r3⟩:=kX g7 g8 g9 g10 a3;obtain⟨a2,rfl⟩:Rd w [v2] [AV.int .i64 i] f2/\k2=[]:=a2;obtain⟨us,rfl2,hI,a2⟩:=Pj a2;obtain⟨rfl,rfl⟩:=Ln a2;cases rfl2;obtain⟨xs',cs,e1,p0,p1,p2,p3,p4,p5⟩:=r1.mg;cases e1;obtain⟨ys',cv,e2,_,q1,q2,q3,q4,q5⟩:=r3.mg;cases e2;rw[g11]at p0 p1 p2 p5 q1 q2 q5;obtain⟨vb,vc,VC,rfl,hv,rfl⟩:∃g cap C,v3= .slice (some ⟨g,0,none⟩) ys.length cap/\Du w el K g cap C ys.length cv/\k3=[g]:=by
      rcases q5 with⟨h,_⟩|h
      ·exact absurd h hy
      ·exact h
     have oN:k1++ [vb]=k1++([]++([vb]++ [])):=by simp
     have IT:∀g∈k1,vb≠g:=by intro g hg e;subst e;have:=(List.nodup_append.1 BX).2.2 vb hg vb (by simp);exact this rfl
     have Wm:0<ys.length:=by cases ys with|nil=>exact absurd rfl hy|cons=>simp
     have hc:=D8 w v1 xs.length i.toNat cs k1 vb vc ys.length VC cv p2 (by
      rcases p5 with⟨rfl,_,q,rfl⟩|⟨g,cap,C,rfl,h,rfl⟩
      ·exact .inl ⟨rfl,q,rfl⟩
      ·exact .inr ⟨g,cap,C,rfl,h,by simp⟩) (by omega) hv IT Wm hb q4 p4
     rw[show((i.toNat:Nat):Int)=i by omega]at hc;refine hc.mono ?_;rintro e w' ⟨u,rfl,g,cap,C,rfl,⟨z1,z2,z3,z4,z5⟩,Bg,Ey⟩;have Kb:∀{us:List Value} {zs:List AV},Rd w us zs []->Rd w' us zs []:=λh=>h.frame (by simp);have cut:∀o n,Rd w ((cs.drop o).take n) (((AA xs).drop o).take n) []:=λo n=>by
      obtain⟨gg,k1,k2⟩:=p3.piece o n;have:gg=[]:=List.eq_nil_iff_forall_not_mem.2 λb hb=>by simpa using k1 b hb
      rw[this]at k2;exact k2
     obtain⟨t1,t2⟩:=QX p1 (i:=i.toNat) (by omega);have hmul:=By K (show i.toNat<=xs.length by omega);have D1:Rd w' (cs.take (i.toNat*K)++cv++cs.drop (i.toNat*K)) (AA (xs.take i.toNat++ys++xs.drop i.toNat)) []:=by rw[O1,O1,t1,t2];have c1:=cut 0 (i.toNat*K);have c2:=cut (i.toNat*K) (cs.length-i.toNat*K);rw[List.drop_zero,List.drop_zero]at c1;rw[List.take_of_length_le (by simp),List.take_of_length_le (by rw[Br,Li _ p1,p2];exact AF _)]at c2;exact(((Kb c1).app (Kb q3)).app (Kb c2))
     have hlen:(xs.take i.toNat++ys++xs.drop i.toNat).length=xs.length+ys.length:=by simp only[Aq,AI,Br];omega
     have Bj:Df w' el K (.slice (some ⟨g,0,none⟩) (xs.length+ys.length) cap) (.sl (xs.take i.toNat++ys++xs.drop i.toNat)) [g] []:=by
      refine⟨_,rfl,λy hy=> ?_,p0, .inr ⟨g,cap,C,by rw[hlen],by rw[hlen];exact z1,z2,z3,z4,rfl,?_,?_⟩⟩
      ·rcases Ae.1 hy with hy|hy
       ·rcases Ae.1 hy with hy|hy
        ·exact p1 y (BD hy)
        ·exact q1 y hy
       ·exact p1 y (BR hy)
      ·rw[hlen,<-z5];intro u hu;rcases Ae.1 hu with hu|hu
       ·rcases Ae.1 hu with hu|hu
        ·exact p4 u (BD hu)
        ·exact q4 u hu
       ·exact p4 u (BR hu)
      ·rw[hlen,<-z5];exact D1
     refine⟨_,rfl,⟨⟨_,[],[],[g],[],[],rfl,?_,?_,by simp,?_,by simp⟩,Bg.weaken λb hb=> .inl (by simp[hb])⟩⟩
     ·rw[g5];show DM Tryz.prog w' t s.res _ _ [] [g];unfold DM;rw[hr,if_pos g12];refine⟨[.slice (some ⟨g,0,none⟩) (xs.length+ys.length) cap],[.sl (xs.take i.toNat++ys++xs.drop i.toNat)],by rw[g7];simp,?_⟩;rw[g8];have:=CA.own (P:=Tryz.prog) (t:=t) (ts:=[]) (fl:=[true]) (us:=[]) (ys:=[]) (rf:=[]) (hs:=[]) rfl g9 (.inl ⟨g10,rfl⟩) (by rw[g11];exact Bj) .nil;simpa using this
     ·rw[g4,Cr,AH,hm];exact .va rfl (.ro rfl (.va rfl .nil))
     ·intro b hb;simp only[AH,List.mem_singleton]at hb;subst hb;exact⟨by rcases Ey with h|h;exact .inl (by simp[h]);exact .inr h,Dm z3⟩
 ·cases hk
noncomputable def Gz{α:Type}(xs:List α)(i:Int)(ys:List α):Option (List α):=Ax (0<=i/\i<=xs.length/\0<ys.length/\(xs.length+ys.length)*1000<=140737488355328) (some (xs.take i.toNat++ys++xs.drop i.toNat))
theorem zKw{f t it el K:Nat}(hk:uT Tryz.prog BQ f t it el K=true)(Ci:∀r,HX Tryz.prog BQ f r=true)(D8:Lu Tryz.prog f el K){α:Type}{av:α->AV}{xs ys r:List α}{i:Int}(h:Gz xs i ys=some r):
  Cp Tryz.prog BQ f [.sl (xs.map av), .int .i64 i, .sl (ys.map av)] (.sl (r.map av)):=by
 obtain⟨⟨h0,h1,h2,h3⟩,h⟩:=F8 h;cases h;have:=zOh hk Ci D8 (xs.map av) (ys.map av) i h0 (by simpa using h1) (by cases ys with|nil=>simp at h2|cons=>simp) (by simpa using h3);simpa[List.map_append,List.map_take,List.map_drop]using this
theorem zzZ{P:Program}{w:World}{t el K:Nat}{l:AN}{v:Value}{x:AV}{rf hs:List Nat}(ha:Ar P t=false)(hl:Bc P t=[t])(he:CK P t=some el)(hf:Ch P el=false)(hd:DN P t=some (.row el K l))(h:MY P w t [true] v x rf hs):rf=[]/\DC w [.row el K l] [v] [x] hs:=by
 obtain⟨us,ys,h1,h2⟩:=h;rw[ha]at h1;simp only[A6,if_false]at h1;obtain⟨rfl,rfl⟩:=h1;rw[hl]at h2;cases h2 with
 |own q1 q2 q3 q4 q5=>
  rw[he]at q2;cases q2;rcases q3 with⟨h,_⟩|⟨_,h⟩
  ·rw[hf]at h;cases h
  ·rw[hd]at h;cases h
 |deep q1 q2 q3 q4 q5 q6=>cases q6;rw[hd]at q4;cases q4;exact⟨rfl,by simpa using q5⟩
 |rd q1=>have:=q1 rfl;rw[he]at this;cases this
theorem zKK(l:List DT){n i:Nat}(hi:i<=n):Cc n l=Cc i l++Cc (n-i) l:=by rw[<-Q1];congr 1;omega
theorem DC.cut{w:World}{xs:List AV}{l:List DT}{K:Nat}{cs:List Value}{N:List Nat}(hK:l.length=K)(h:DC w (Cc xs.length l) cs (AA xs) N)(hx:∀y∈xs,y.cells.length=K){i:Nat}(hi:i<=xs.length):
  ∃N1 N2,N=N1++N2/\DC w (Cc i l) (cs.take (i*K)) (AA (xs.take i)) N1/\DC w (Cc (xs.length-i) l) (cs.drop (i*K)) (AA (xs.drop i)) N2:=by
 have hlen:=h.len;have t1:=QX hx hi;have hmul:=By K hi;rw[zKK l hi,<-B6 (i*K) cs,<-B6 (i*K) (AA xs)]at h;rw[Pc,hK]at hlen;obtain⟨N1,N2,rfl,h1,h2⟩:=DC.gj (by rw[Pc,hK,AI];omega) (by rw[Pc,hK,AI];omega) h;exact⟨N1,N2,rfl,by rw[t1.1];exact h1,by rw[t1.2];exact h2⟩
def uC(P:Program)(sg:BW)(f:Nat)(t it el K:Nat)(l:List DT):Bool:=
 match P.funcs[f]?,sg f with
 |some fn,some s=>(match s.c8,s.res,s.ft,s.lo with
  | [.va [true], .ro, .va [true]],[true],[],[]=>true
  |_,_,_,_=>false)&&fn.body.isSome&& !(fn.name== "runtime.NumGoroutine")&&fn.params.toList==[t,it,t]&&fn.resultTypes.toList==[t]&&fn.nfree==0&& !Ar P t&&Bc P t==[t]&&CK P t==some el&& !Ch P el&&No (DN P t) el K l&&FL P t [true]&&fn.params.size==3
 |_,_=>false
theorem zMi{f t it el K:Nat}{l:List DT}(hk:uC Tryz.prog BQ f t it el K l=true)(Ci:∀r,HX Tryz.prog BQ f r=true)(D8:Lu Tryz.prog f el K)(xs ys:List AV)(i:Int)(h0:0<=i)(h1:i<=xs.length)(hy:ys≠ [])(hb:(xs.length+ys.length)*1000<=140737488355328):
  Cp Tryz.prog BQ f [.sl xs, .int .i64 i, .sl ys] (.sl (xs.take i.toNat++ys++xs.drop i.toNat)):=by
 unfold uC at hk;split at hk
 ·rename_i fn s hf hs;simp only[Ac,Bk,Az]at hk;obtain⟨⟨⟨⟨⟨⟨⟨⟨⟨⟨⟨⟨g1,g2⟩,g3⟩,g4⟩,g5⟩,g6⟩,g7⟩,g8⟩,g9⟩,g10⟩,g11⟩,g12⟩,g13⟩:=hk;have g11:=Uf g11;obtain⟨hm,hr,Cr,Ca⟩:s.c8=[.va [true], .ro, .va [true]]/\s.res=[true]/\s.ft=[]/\s.lo=[]:=by
   split at g1
   ·rename_i a b c d;exact⟨a,b,c,d⟩
   ·cases g1
  unfold Cp;rw[if_pos (Kw f s hs)];refine⟨s,hs,fn,hf,g2,g3,by have:=Ci (xs.take i.toNat++ys++xs.drop i.toNat);unfold HX at this;rw[hf,hs]at this;exact this,by simp[g6,g13],by simp[Cr],λw vs rf lf A9 Am hd _ BX Ea=> ?_⟩;rw[g4,Cr,AH,hm,Ca]at Am;cases Am with
  |lent h _ _ _=>cases h
  | @cons _ _ _ _ v1 vs1 _ _ f1 k1 rf1 lf1 BN a1 Am=>
   cases Am with
   |lent h _ _ _=>cases h
   | @cons _ _ _ _ v2 vs2 _ _ f2 k2 rf2 lf2 Ba a2 Am=>
    cases Am with
    |lent h _ _ _=>cases h
    | @cons _ _ _ _ v3 vs3 _ _ f3 k3 rf3 lf3 FY a3 Am=>
     cases Am;obtain⟨rfl,r1⟩:=zzZ g7 g8 g9 g10 g11 a1;obtain⟨rfl,r3⟩:=zzZ g7 g8 g9 g10 g11 a3;obtain⟨a2,rfl⟩:Rd w [v2] [AV.int .i64 i] f2/\k2=[]:=a2;obtain⟨us,rfl2,hI,a2⟩:=Pj a2;obtain⟨rfl,rfl⟩:=Ln a2;cases rfl2;obtain⟨p0,pl,r1'⟩:=r1.inv;obtain⟨_,_,⟨a,_,e2,_⟩|⟨vb,vc,VC,ys',M,rfl,e2,rfl,q1,q2,q3,q4,q5,q6,q7⟩⟩:=r3.inv
     ·cases e2;exact absurd rfl hy
     cases e2;rw[AN.ax]at pl q7;have Wm:0<ys.length:=by cases ys with|nil=>exact absurd rfl hy|cons=>simp
     have hv:Du w el K vb vc VC ys.length (VC.toList.take (ys.length*K)):=⟨q2,q3,q1,q4,rfl⟩
     obtain⟨cs,own,N,e1,Hp,AG,A3,hsin,V0,oZ,Ka⟩:∃(cs:List Value) (own N:List Nat),k1=own++N/\own.length<=1/\cs.length=xs.length*K/\
       ((xs.length=0/\ ∃q,v1= .slice q 0 0)\/ ∃g cap C,v1= .slice (some ⟨g,0,none⟩) xs.length cap/\Du w el K g cap C xs.length cs/\g∈own)/\(∀g∈own,g∈k1)/\(∀u∈cs,u.oneCell'=true)/\(∀y∈xs,y.cells.length=K)/\DC w (Cc xs.length l) cs (AA xs) N:=by
      rcases r1' with⟨a,rfl,e1,rfl⟩|⟨g,cap,C,xs',N,rfl,e1,rfl,d1,d2,d3,d4,d5,d6,d7⟩
      ·cases e1;exact⟨[],[],[],rfl,by simp,by simp, .inl ⟨rfl,a,rfl⟩,by simp,by simp,by simp,by simpa[Cc,AA]using DC.nil⟩
      ·cases e1;rw[AN.ax]at d7;have hR:Du w el K g cap C xs.length (C.toList.take (xs.length*K)):=⟨d2,d3,d1,d4,rfl⟩
       exact⟨_,[g],N,rfl,by simp,hR.len, .inr ⟨g,cap,C,rfl,hR,by simp⟩,by simp,d6,d5,d7⟩
     subst e1;have B9:i.toNat<=xs.length:=by omega
     have IT:∀g∈own,vb≠g:=by intro g hg e;subst e;have hn:((own++N)++([]++((vb::M)++ []))).Nodup:=BX;exact(List.nodup_append.1 hn).2.2 vb (by simp[hg]) vb (by simp) rfl
     have hc:=D8 w v1 xs.length i.toNat cs own vb vc ys.length VC _ AG A3 B9 hv IT Wm hb q6 V0;rw[show((i.toNat:Nat):Int)=i by omega]at hc;refine hc.mono ?_;rintro e w' ⟨u,rfl,g,cap,C,rfl,⟨z1,z2,z3,z4,z5⟩,Bg,Ey⟩;have GR:((own++N)++(vb::M)).Nodup:=by simpa using BX
     have oR:∀b∈N,b∉own:=λb hb ho=>(List.nodup_append.1 (List.nodup_append.1 GR).1).2.2 b ho b hb rfl;have hoM:∀b∈M,b∉own:=λb hb ho=>(List.nodup_append.1 GR).2.2 b (by simp[ho]) b (by simp[hb]) rfl;have fN:=Ka.frame (w':=w') λb hb=>Bg.block b (Ka.inb b hb) (oR b hb);have fM:=q7.frame (w':=w') λb hb=>Bg.block b (q7.inb b hb) (hoM b hb);obtain⟨N1,N2,rfl,c1,c2⟩:=fN.cut pl oZ B9;have hlen:(xs.take i.toNat++ys++xs.drop i.toNat).length=xs.length+ys.length:=by simp only[Aq,AI,Br];omega
     have Cj:DC w' (Cc (xs.length+ys.length) l) (C.toList.take ((xs.length+ys.length)*K)) (AA (xs.take i.toNat++ys++xs.drop i.toNat)) (N1++M++N2):=by rw[<-z5,O1,O1,show xs.length+ys.length=(i.toNat+ys.length)+(xs.length-i.toNat) by omega,Q1,Q1];exact(c1.app fM).app c2
     have Bj:DC w' [.row el K (AN.of l)] [.slice (some ⟨g,0,none⟩) (xs.length+ys.length) cap] [.sl (xs.take i.toNat++ys++xs.drop i.toNat)] (g::(N1++M++N2)):=by
      have:=DC.row (w:=w') (e:=el) (z:=K) (l:=AN.of l) (g:=g) (cap:=cap) (C:=C) (ys:=xs.take i.toNat++ys++xs.drop i.toNat) (N1:=N1++M++N2) (ts:=[]) (vs:=[]) (xs:=[]) (N:=[]) p0 (by rw[AN.ax];exact pl) z3 (by rw[hlen];exact z1) z2 z4 (λy hy=> ?_) (by
       rw[hlen,<-z5];intro u hu;rcases Ae.1 hu with hu|hu
       ·rcases Ae.1 hu with hu|hu
        ·exact V0 u (BD hu)
        ·exact q6 u hu
       ·exact V0 u (BR hu)) (by rw[hlen,AN.ax];exact Cj) .nil
      ·rw[hlen]at this;simpa using this
      ·rcases Ae.1 hy with hy|hy
       ·rcases Ae.1 hy with hy|hy
        ·exact oZ y (BD hy)
        ·exact q5 y hy
       ·exact oZ y (BR hy)
     have Cl:∀b∈N1++M++N2,b∈(own++(N1++N2))++(vb::M):=λb hb=>by simp only[Ae,Ag]at hb ⊢;rcases hb with(hb|hb)|hb<;>simp[hb]
     have MH:(N1++M++N2).Nodup:=by
      have h1:((N1++N2)++M).Nodup:=((List.nodup_append.1 GR).1.sublist (List.sublist_append_right _ _)|>λa=>List.nodup_append.2 ⟨a,((List.nodup_append.1 GR).2.1).sublist (List.sublist_cons_self _ _),λp hp q hq=>(List.nodup_append.1 GR).2.2 p (List.mem_append_right _ hp) q (List.mem_cons_of_mem _ hq)⟩)
      exact(List.Perm.nodup_iff (by rw[List.append_assoc,List.append_assoc];exact List.Perm.append_left _ List.perm_append_comm)).1 h1
     have hgn:g∉N1++M++N2:=by
      intro Dq;rcases Ey with hg|hg
      ·simp only[Ae]at Dq;rcases Dq with(Dq|Dq)|Dq
       ·exact oR g (by simp[Dq]) hg
       ·exact hoM g Dq hg
       ·exact oR g (by simp[Dq]) hg
      ·simp only[Ae]at Dq;rcases Dq with(Dq|Dq)|Dq
       ·have:=Ka.inb g (by simp[Dq]);omega
       ·have:=q7.inb g Dq;omega
       ·have:=Ka.inb g (by simp[Dq]);omega
     refine⟨_,rfl,⟨⟨_,[],[],g::(N1++M++N2),[],[],rfl,?_,?_,?_,?_,by simp⟩,Bg.weaken λb hb=> .inl (by simp[hb])⟩⟩
     ·rw[g5];show DM Tryz.prog w' t s.res _ _ [] _;unfold DM;rw[hr,if_pos g12];refine⟨[.slice (some ⟨g,0,none⟩) (xs.length+ys.length) cap],[.sl (xs.take i.toNat++ys++xs.drop i.toNat)],by rw[g7];simp,?_⟩;rw[g8];have:=CA.deep (P:=Tryz.prog) (t:=t) (ts:=[]) (fl:=[true]) (us:=[]) (ys:=[]) (rf:=[]) (hs:=[]) rfl g9 g10 g11 Bj .nil;simpa using this
     ·rw[g4,Cr,AH,hm];exact .va rfl (.ro rfl (.va rfl .nil))
     ·rw[AH];exact List.nodup_cons.2 ⟨hgn,MH⟩
     ·intro b hb;rw[AH]at hb;rcases Ag.1 hb with rfl|hb
      ·exact⟨by rcases Ey with h|h;exact .inl (by simp[h]);exact .inr h,Dm z3⟩
      ·have:=Cl b hb;refine⟨.inl (by simpa using this),?_⟩;have AQ:b<w.heap.size:=by
        simp only[Ae,Ag]at hb;rcases hb with(hb|hb)|hb
        ·exact Ka.inb b (by simp[hb])
        ·exact q7.inb b hb
        ·exact Ka.inb b (by simp[hb])
       have:=Bg.size;omega
 ·cases hk
theorem zvU{P:Program}(w:World)(t ty el:TypeId)(i:TypeInfo)(ht:P.underlying t=some (.slice el))(hi:P.info? el=some i)(k:Nat)(hk:i.size=k)(g n cap:Nat)(a:Addr)(m c:Nat)(cur:Array Value)(news:List Value)
  (hg:w.heap[g]?=some (.cells cur el (0,0))) (hl:news.length=m*k) (Dx:∀j u,news[j]?=some u->w.cell? (a.add j)=some u) (h1:∀u∈news,u.oneCell'=true) (BT:n+m<=cap) (Ic:n*k+news.length<=cur.size):
  (Builtin.append_ #[t,t] ty #[.slice (some ⟨g,0,none⟩) n cap, .slice (some a) m c]).run P w= .ok (.slice (some ⟨g,0,none⟩) (n+m) cap) (w.setRow g (cur.toList.take (n*k)++news++cur.toList.drop (n*k+news.length)).toArray):=by
 subst hk;have VD:=run_firstCells_some (P:=P) w i.size m a m c news hl Dx;have FI:=run_storeCells_at P g (n*i.size) el news 0 cur w hg (by simpa using Ic) h1;simp only[Nat.add_zero]at FI;simp[Builtin.append_,run_underlying ht,sizeOf,typeInfo,hi,Builtin.lenOf,BT,VD,Addr.add_lit,FI]
theorem zHl{P:Program}(w:World)(t el ty:TypeId)(z:Value)(ht:P.underlying t=some (.slice el))(hv:∀w,(zeroValue el).run P w= .ok z w)(h1:∀u∈z.cells,u.oneCell'=true)(g o n c:Nat)(cur:Array Value)(hn:0<n)
  (hg:w.heap[g]?=some (.cells cur el (0,0))) (Ic:o+n*z.cells.size<=cur.size):
  (Builtin.clear_ #[t] ty #[.slice (some ⟨g,o,none⟩) n c]).run P w= .ok (.tuple #[]) (w.setRow g (cur.toList.take o++(Builtin.zeroCells z.cells n).toList++cur.toList.drop (o+(Builtin.zeroCells z.cells n).toList.length)).toArray):=by
 have FI:=run_storeCells_at P g o el (Builtin.zeroCells z.cells n).toList 0 cur w hg (by simpa[size_zeroCells]using Ic) (λu hu=>by
  have hu:u∈Builtin.zeroCells z.cells n:=by simpa using hu
  unfold Builtin.zeroCells at hu;obtain⟨j,hj,rfl⟩:=Array.mem_map.1 hu;have hj:j<n*z.cells.size:=by simpa using hj
  have h0:0<z.cells.size:=by
   rcases Nat.eq_zero_or_pos z.cells.size with h|h
   ·rw[h]at hj;omega
   ·exact h
  rw[getElem!_pos z.cells _ (Nat.mod_lt _ h0)];exact h1 _ (Array.getElem_mem _))
 simp only[Nat.add_zero]at FI;obtain⟨m,rfl⟩:∃m,n=m+1:=⟨n-1,by omega⟩
 simp[Builtin.clear_,run_underlying ht,hv,FI]
theorem zvr{P:Program}{ops:Array Oper}{o:Oper}{a:Act}{w:World}{K:Act->World->Prop}{Q:Exit->Act->World->Prop}{E:Prop}
  (hg:o.guard=none) (s x:Operand) (t:TypeId) (AY:o.op=Op.call {callee:=Callee.builtin Builtin.append,args:= #[s,x],argTypes:= #[t,t]})
  (v u:Value) (hs:a.eval s=v) (hx:a.eval x=u) {v':Value} {w':World} (hr:∀ty,(Builtin.append_ #[t,t] ty #[v,u]).run P w= .ok v' w') (hK:K (a.put o.dst v') w'):
  if Region.wanted o (yielded ops a.tmps)=true then Oper.wp P o a w K Q else E:=by
 have hw:Region.wanted o (yielded ops a.tmps)=true:=by simp[Region.wanted,hg]
 rw[if_pos hw];unfold Oper.wp;simp[execOp,AY,resolve,invoke,builtin,hs,hx,hr,Result.andThen];exact hK
def uD(P:Program)(f:Nat)(el:TypeId)(k:Nat):Prop:=
 ∀(w:World) (n i j g cap:Nat) (C:Array Value) (cs:List Value),Du w el k g cap C n cs->i<j->j<=n->(∀u∈cs,u.oneCell'=true)->
  Calls P f #[.slice (some ⟨g,0,none⟩) n cap, .int .i64 i, .int .i64 j] w λe w'=> ∃C',e= .returned (.slice (some ⟨g,0,none⟩) (n-(j-i)) cap)/\Du w' el k g cap C' (n-(j-i)) (cs.take (i*k)++cs.drop (j*k))/\Mod [g] w w'
noncomputable def YN{α:Type}(xs:List α)(i j:Int):Option (List α):=Ax (0<=i/\i<j/\j<=xs.length) (some (xs.take i.toNat++xs.drop j.toNat))
theorem zK2{f t it el K:Nat}{l:List DT}(hk:uC Tryz.prog BQ f t it el K l=true)(Ci:∀r,HX Tryz.prog BQ f r=true)(D8:Lu Tryz.prog f el K){α:Type}{av:α->AV}{xs ys r:List α}{i:Int}(h:Gz xs i ys=some r):
  Cp Tryz.prog BQ f [.sl (xs.map av), .int .i64 i, .sl (ys.map av)] (.sl (r.map av)):=by
 obtain⟨⟨h0,h1,h2,h3⟩,h⟩:=F8 h;cases h;have:=zMi hk Ci D8 (xs.map av) (ys.map av) i h0 (by simpa using h1) (by cases ys with|nil=>simp at h2|cons=>simp) (by simpa using h3);simpa[List.map_append,List.map_take,List.map_drop]using this
theorem qK{P:Program}{w:World}{t el:TypeId}{v:Value}{x:AV}{rf hs:List Nat}(ha:Ar P t=false)(hl:Bc P t=[t])(he:CK P t=some el)(hf:Ch P el=false)(hd:(DN P t).isNone=true)(h:MY P w t [true] v x rf hs):Df w el (P.cellsOf el) v x hs rf:=by
 obtain⟨us,ys,h1,h2⟩:=h;rw[ha]at h1;simp only[A6,if_false]at h1;obtain⟨rfl,rfl⟩:=h1;rw[hl]at h2;cases h2 with
 |own q1 q2 q3 q4 q5=>cases q5;rw[he]at q2;cases q2;simpa using q4
 |deep q1 q2 q3 q4=>rw[q4]at hd;cases hd
 |rd q1=>have:=q1 rfl;rw[he]at this;cases this
theorem Df.oa{w:World}{el K:Nat}{v:Value}{x:AV}{top N:List Nat}(h:Df w el K v x top N):∃xs cs,x= .sl xs/\0<K/\(∀y∈xs,y.cells.length=K)/\cs.length=xs.length*K/\Rd w cs (AA xs) N/\(∀u∈cs,u.oneCell'=true)/\
  ((xs=[]/\top=[]/\ ∃q,v= .slice q 0 0)\/ ∃g cap C,v= .slice (some ⟨g,0,none⟩) xs.length cap/\Du w el K g cap C xs.length cs/\top=[g]):=by
 obtain⟨xs,rfl,h2,h3,⟨rfl,⟨a,hv⟩,rfl,rfl⟩|⟨g,cap,C,rfl,h6,h7,h8,h9,rfl,E1,EE⟩⟩:=h
 ·exact⟨[],[],rfl,h3,h2,by simp,by simpa[AA]using Rd.nil,by simp, .inl ⟨rfl,rfl,a,hv⟩⟩
 ·exact⟨xs,_,rfl,h3,h2,(Du.len ⟨h6,h7,h8,h9,rfl⟩),EE,E1, .inr ⟨g,cap,C,rfl,⟨h6,h7,h8,h9,rfl⟩,rfl⟩⟩
def uF(P:Program)(sg:BW)(f:Nat)(t it el K:Nat):Bool:=
 match P.funcs[f]?,sg f with
 |some fn,some s=>(match s.c8,s.res,s.ft,s.lo with
  | [.va [true], .ro, .va [true]],[true],[],[]=>true
  |_,_,_,_=>false)&&fn.body.isSome&& !(fn.name== "runtime.NumGoroutine")&&fn.params.toList==[t,it,t]&&fn.resultTypes.toList==[t]&&fn.nfree==0&& !Ar P t&&Bc P t==[t]&&CK P t==some el&&(!Ch P el&&(DN P t).isNone)&&P.cellsOf el==K&&FL P t [true]&&fn.params.size==3
 |_,_=>false
theorem zL7{f t it el K:Nat}(hk:uF Tryz.prog BQ f t it el K=true)(Ci:∀r,HX Tryz.prog BQ f r=true)(D8:Lu Tryz.prog f el K)(xs ys:List AV)(i:Int)(h0:0<=i)(h1:i<=xs.length)(hy:ys≠ [])(hb:(xs.length+ys.length)*1000<=140737488355328):
  Cp Tryz.prog BQ f [.sl xs, .int .i64 i, .sl ys] (.sl (xs.take i.toNat++ys++xs.drop i.toNat)):=by
 unfold uF at hk;split at hk
 ·rename_i fn s hf hs;simp only[Ac,Bk,Az]at hk;obtain⟨⟨⟨⟨⟨⟨⟨⟨⟨⟨⟨⟨g1,g2⟩,g3⟩,g4⟩,g5⟩,g6⟩,g7⟩,g8⟩,g9⟩,g10⟩,g11⟩,g12⟩,g13⟩:=hk;obtain⟨hm,hr,Cr,Ca⟩:s.c8=[.va [true], .ro, .va [true]]/\s.res=[true]/\s.ft=[]/\s.lo=[]:=by
   split at g1
   ·rename_i a b c d;exact⟨a,b,c,d⟩
   ·cases g1
  unfold Cp;rw[if_pos (Kw f s hs)];refine⟨s,hs,fn,hf,g2,g3,by have:=Ci (xs.take i.toNat++ys++xs.drop i.toNat);unfold HX at this;rw[hf,hs]at this;exact this,by simp[g6,g13],by simp[Cr],λw vs rf lf A9 Am hd _ BX Ea=> ?_⟩;rw[g4,Cr,AH,hm,Ca]at Am;cases Am with
  |lent h _ _ _=>cases h
  | @cons _ _ _ _ v1 vs1 _ _ f1 k1 rf1 lf1 BN a1 Am=>
   cases Am with
   |lent h _ _ _=>cases h
   | @cons _ _ _ _ v2 vs2 _ _ f2 k2 rf2 lf2 Ba a2 Am=>
    cases Am with
    |lent h _ _ _=>cases h
    | @cons _ _ _ _ v3 vs3 _ _ f3 k3 rf3 lf3 FY a3 Am=>
     cases Am;have r1:=qK g7 g8 g9 g10.1 g10.2 a1;have r3:=qK g7 g8 g9 g10.1 g10.2 a3;obtain⟨a2,rfl⟩:Rd w [v2] [AV.int .i64 i] f2/\k2=[]:=a2;obtain⟨us,rfl2,hI,a2⟩:=Pj a2;obtain⟨rfl,rfl⟩:=Ln a2;cases rfl2;obtain⟨xs',cs,e1,p0,p1,p2,p3,p4,p5⟩:=r1.oa;cases e1;obtain⟨ys',cv,e2,_,q1,q2,q3,q4,q5⟩:=r3.oa;cases e2;rw[g11]at p0 p1 p2 p5 q1 q2 q5;obtain⟨vb,vc,VC,rfl,hv,rfl⟩:∃g cap C,v3= .slice (some ⟨g,0,none⟩) ys.length cap/\Du w el K g cap C ys.length cv/\k3=[g]:=by
      rcases q5 with⟨h,_⟩|h
      ·exact absurd h hy
      ·exact h
     have oN:k1++ [vb]=k1++([]++([vb]++ [])):=by simp
     have IT:∀g∈k1,vb≠g:=by intro g hg e;subst e;have:=(List.nodup_append.1 BX).2.2 vb hg vb (by simp);exact this rfl
     have Wm:0<ys.length:=by cases ys with|nil=>exact absurd rfl hy|cons=>simp
     have hc:=D8 w v1 xs.length i.toNat cs k1 vb vc ys.length VC cv p2 (by
      rcases p5 with⟨rfl,_,q,rfl⟩|⟨g,cap,C,rfl,h,rfl⟩
      ·exact .inl ⟨rfl,q,rfl⟩
      ·exact .inr ⟨g,cap,C,rfl,h,by simp⟩) (by omega) hv IT Wm hb q4 p4
     rw[show((i.toNat:Nat):Int)=i by omega]at hc;refine hc.mono ?_;rintro e w' ⟨u,rfl,g,cap,C,rfl,⟨z1,z2,z3,z4,z5⟩,Bg,Ey⟩;have CO:∀b∈f1,b<w.heap.size/\b∉k1:=λb hb=>⟨p3.inb b hb,λh=>hd b (by simp[h]) (by simp[hb])⟩
     have Ip:∀b∈f3,b<w.heap.size/\b∉k1:=λb hb=>⟨q3.inb b hb,λh=>hd b (by simp[h]) (by simp[hb])⟩
     obtain⟨t1,t2⟩:=QX p1 (i:=i.toNat) (by omega);have hmul:=By K (show i.toNat<=xs.length by omega);obtain⟨na,ma,ca⟩:=p3.piece 0 (i.toNat*K);obtain⟨nb,mb,cb⟩:=p3.piece (i.toNat*K) (cs.length-i.toNat*K);rw[List.drop_zero,List.drop_zero]at ca;rw[List.take_of_length_le (by simp),List.take_of_length_le (by rw[Br,Li _ p1,p2];exact AF _)]at cb;have D1:Rd w' (cs.take (i.toNat*K)++cv++cs.drop (i.toNat*K)) (AA (xs.take i.toNat++ys++xs.drop i.toNat)) (na++f3++nb):=by rw[O1,O1,t1,t2];exact((ca.frame λb hb=>Bg.block b (CO b (ma b hb)).1 (CO b (ma b hb)).2).app (q3.frame λb hb=>Bg.block b (Ip b hb).1 (Ip b hb).2)).app (cb.frame λb hb=>Bg.block b (CO b (mb b hb)).1 (CO b (mb b hb)).2)
     have hlen:(xs.take i.toNat++ys++xs.drop i.toNat).length=xs.length+ys.length:=by simp only[Aq,AI,Br];omega
     have Bj:Df w' el K (.slice (some ⟨g,0,none⟩) (xs.length+ys.length) cap) (.sl (xs.take i.toNat++ys++xs.drop i.toNat)) [g] (na++f3++nb):=by
      refine⟨_,rfl,λy hy=> ?_,p0, .inr ⟨g,cap,C,by rw[hlen],by rw[hlen];exact z1,z2,z3,z4,rfl,?_,?_⟩⟩
      ·rcases Ae.1 hy with hy|hy
       ·rcases Ae.1 hy with hy|hy
        ·exact p1 y (BD hy)
        ·exact q1 y hy
       ·exact p1 y (BR hy)
      ·rw[hlen,<-z5];intro u hu;rcases Ae.1 hu with hu|hu
       ·rcases Ae.1 hu with hu|hu
        ·exact p4 u (BD hu)
        ·exact q4 u hu
       ·exact p4 u (BR hu)
      ·rw[hlen,<-z5];exact D1
     refine⟨_,rfl,⟨⟨_,[],na++f3++nb,[g],[],[],rfl,?_,?_,by simp,?_,?_⟩,Bg.weaken λb hb=> .inl (by simp[hb])⟩⟩
     ·rw[g5];show DM Tryz.prog w' t s.res _ _ _ [g];unfold DM;rw[hr,if_pos g12];refine⟨[.slice (some ⟨g,0,none⟩) (xs.length+ys.length) cap],[.sl (xs.take i.toNat++ys++xs.drop i.toNat)],by rw[g7];simp,?_⟩;rw[g8];have:=CA.own (P:=Tryz.prog) (t:=t) (ts:=[]) (fl:=[true]) (us:=[]) (ys:=[]) (rf:=[]) (hs:=[]) rfl g9 (.inr ⟨g10.1,by simpa using g10.2⟩) (by rw[g11];exact Bj) .nil;simpa using this
     ·rw[g4,Cr,AH,hm];exact .va rfl (.ro rfl (.va rfl .nil))
     ·intro b hb;simp only[AH,List.mem_singleton]at hb;subst hb;exact⟨by rcases Ey with h|h;exact .inl (by simp[h]);exact .inr h,Dm z3⟩
     ·intro b hb;rw[AH]at hb;have Cd:b∈f1\/b∈f3:=by
       simp only[Ae]at hb;rcases hb with(hb|hb)|hb
       ·exact .inl (ma b hb)
       ·exact .inr hb
       ·exact .inl (mb b hb)
      have A9:b<w.heap.size/\b∉k1:=Cd.elim (CO b) (Ip b);refine⟨λh=> ?_, .inl (by rcases Cd with h|h<;>simp[h])⟩;simp only[AH,List.mem_singleton]at h;subst h;rcases Ey with h|h
      ·exact A9.2 h
      ·omega
 ·cases hk
def tW(P:Program)(sg:BW)(f:Nat)(t it el K:Nat):Bool:=
 match P.funcs[f]?,sg f with
 |some fn,some s=>(match s.c8,s.res,s.ft,s.lo with
  | [.va [true], .ro, .ro],[true],[],[]=>true
  |_,_,_,_=>false)&&fn.body.isSome&& !(fn.name== "runtime.NumGoroutine")&&fn.params.toList==[t,it,it]&&fn.resultTypes.toList==[t]&&fn.nfree==0&& !Ar P t&&Bc P t==[t]&&CK P t==some el&&(!Ch P el&&(DN P t).isNone)&&P.cellsOf el==K&&FL P t [true]&&fn.params.size==3
 |_,_=>false
theorem zMa{f t it el K:Nat}(hk:tW Tryz.prog BQ f t it el K=true)(Ci:∀r,HX Tryz.prog BQ f r=true)(KN:uD Tryz.prog f el K)(xs:List AV)(i j:Int)(h0:0<=i)(h1:i<j)(h2:j<=xs.length):
  Cp Tryz.prog BQ f [.sl xs, .int .i64 i, .int .i64 j] (.sl (xs.take i.toNat++xs.drop j.toNat)):=by
 unfold tW at hk;split at hk
 ·rename_i fn s hf hs;simp only[Ac,Bk,Az]at hk;obtain⟨⟨⟨⟨⟨⟨⟨⟨⟨⟨⟨⟨g1,g2⟩,g3⟩,g4⟩,g5⟩,g6⟩,g7⟩,g8⟩,g9⟩,g10⟩,g11⟩,g12⟩,g13⟩:=hk;obtain⟨hm,hr,Cr,Ca⟩:s.c8=[.va [true], .ro, .ro]/\s.res=[true]/\s.ft=[]/\s.lo=[]:=by
   split at g1
   ·rename_i a b c d;exact⟨a,b,c,d⟩
   ·cases g1
  unfold Cp;rw[if_pos (Kw f s hs)];refine⟨s,hs,fn,hf,g2,g3,by have:=Ci (xs.take i.toNat++xs.drop j.toNat);unfold HX at this;rw[hf,hs]at this;exact this,by simp[g6,g13],by simp[Cr],λw vs rf lf A9 Am hd _ BX Ea=> ?_⟩;rw[g4,Cr,AH,hm,Ca]at Am;cases Am with
  |lent h _ _ _=>cases h
  | @cons _ _ _ _ v1 vs1 _ _ f1 k1 rf1 lf1 BN a1 Am=>
   cases Am with
   |lent h _ _ _=>cases h
   | @cons _ _ _ _ v2 vs2 _ _ f2 k2 rf2 lf2 Ba a2 Am=>
    cases Am with
    |lent h _ _ _=>cases h
    | @cons _ _ _ _ v3 vs3 _ _ f3 k3 rf3 lf3 FY a3 Am=>
     cases Am;have r1:=qK g7 g8 g9 g10.1 g10.2 a1;obtain⟨a2,rfl⟩:Rd w [v2] [AV.int .i64 i] f2/\k2=[]:=a2;obtain⟨us,rfl2,hI,a2⟩:=Pj a2;obtain⟨rfl,rfl⟩:=Ln a2;cases rfl2;obtain⟨a3,rfl⟩:Rd w [v3] [AV.int .i64 j] f3/\k3=[]:=a3;obtain⟨us,rfl3,hJ,a3⟩:=Pj a3;obtain⟨rfl,rfl⟩:=Ln a3;cases rfl3;obtain⟨xs',cs,e1,p0,p1,p2,p3,p4,p5⟩:=r1.oa;cases e1;rw[g11]at p0 p1 p2 p5;rcases p5 with⟨rfl,_⟩|⟨g,cap,C,rfl,hR,rfl⟩
     ·simp at h2;omega
     have hc:=KN w xs.length i.toNat j.toNat g cap C _ hR (by omega) (by omega) p4;rw[show((i.toNat:Nat):Int)=i by omega,show((j.toNat:Nat):Int)=j by omega]at hc;refine hc.mono ?_;rintro e w' ⟨C',rfl,⟨z1,z2,z3,z4,z5⟩,Bg⟩;have CO:∀b∈f1,b<w.heap.size/\b∉ [g]:=λb hb=>⟨p3.inb b hb,λh=>hd b (by simp at h;simp[h]) (by simp[hb])⟩
     obtain⟨t1,_⟩:=QX p1 (i:=i.toNat) (by omega);obtain⟨_,t2⟩:=QX p1 (i:=j.toNat) (by omega);obtain⟨na,ma,ca⟩:=p3.piece 0 (i.toNat*K);obtain⟨nb,mb,cb⟩:=p3.piece (j.toNat*K) (cs.length-j.toNat*K);rw[List.drop_zero,List.drop_zero]at ca;rw[List.take_of_length_le (by simp),List.take_of_length_le (by rw[Br,Li _ p1,p2];exact AF _)]at cb;have D1:Rd w' (cs.take (i.toNat*K)++cs.drop (j.toNat*K)) (AA (xs.take i.toNat++xs.drop j.toNat)) (na++nb):=by rw[O1,t1,t2];exact(ca.frame λb hb=>Bg.block b (CO b (ma b hb)).1 (CO b (ma b hb)).2).app (cb.frame λb hb=>Bg.block b (CO b (mb b hb)).1 (CO b (mb b hb)).2)
     have hlen:(xs.take i.toNat++xs.drop j.toNat).length=xs.length-(j.toNat-i.toNat):=by simp only[Aq,AI,Br];omega
     have Bj:Df w' el K (.slice (some ⟨g,0,none⟩) (xs.length-(j.toNat-i.toNat)) cap) (.sl (xs.take i.toNat++xs.drop j.toNat)) [g] (na++nb):=by
      refine⟨_,rfl,λy hy=> ?_,p0, .inr ⟨g,cap,_,by rw[hlen],by rw[hlen];exact z1,z2,z3,z4,rfl,?_,?_⟩⟩
      ·rcases Ae.1 hy with hy|hy
       ·exact p1 y (BD hy)
       ·exact p1 y (BR hy)
      ·rw[hlen,<-z5];intro u hu;rcases Ae.1 hu with hu|hu
       ·exact p4 u (BD hu)
       ·exact p4 u (BR hu)
      ·rw[hlen,<-z5];exact D1
     refine⟨_,rfl,⟨⟨_,[],na++nb,[g],[],[],rfl,?_,?_,by simp,?_,?_⟩,Bg.weaken λb hb=> .inl (by simp at hb;simp[hb])⟩⟩
     ·rw[g5];show DM Tryz.prog w' t s.res _ _ _ _;unfold DM;rw[hr,if_pos g12];refine⟨[.slice (some ⟨g,0,none⟩) (xs.length-(j.toNat-i.toNat)) cap],[.sl (xs.take i.toNat++xs.drop j.toNat)],by rw[g7];simp,?_⟩;rw[g8];have:=CA.own (P:=Tryz.prog) (t:=t) (ts:=[]) (fl:=[true]) (us:=[]) (ys:=[]) (rf:=[]) (hs:=[]) rfl g9 (.inr ⟨g10.1,by simpa using g10.2⟩) (by rw[g11];exact Bj) .nil;simpa using this
     ·rw[g4,Cr,AH,hm];exact .va rfl (.ro rfl (.ro rfl .nil))
     ·intro b hb;simp only[AH,List.mem_singleton]at hb;subst hb;exact⟨.inl (by simp),Dm z3⟩
     ·intro b hb;rw[AH]at hb;have Cd:b∈f1:=by
       rcases Ae.1 hb with hb|hb
       ·exact ma b hb
       ·exact mb b hb
      exact⟨by simpa using(CO b Cd).2, .inl (by simp[Cd])⟩
 ·cases hk
theorem zL2{f t it el K:Nat}(hk:tW Tryz.prog BQ f t it el K=true)(Ci:∀r,HX Tryz.prog BQ f r=true)(KN:uD Tryz.prog f el K){α:Type}{av:α->AV}{xs r:List α}{i j:Int}(h:YN xs i j=some r):
  Cp Tryz.prog BQ f [.sl (xs.map av), .int .i64 i, .int .i64 j] (.sl (r.map av)):=by
 obtain⟨⟨h0,h1,h2⟩,h⟩:=F8 h;cases h;have:=zMa hk Ci KN (xs.map av) i j h0 h1 (by simpa using h2);simpa[List.map_append,List.map_take,List.map_drop]using this
theorem zLk{f t it el K:Nat}(hk:uF Tryz.prog BQ f t it el K=true)(Ci:∀r,HX Tryz.prog BQ f r=true)(D8:Lu Tryz.prog f el K){α:Type}{av:α->AV}{xs ys r:List α}{i:Int}(h:Gz xs i ys=some r):
  Cp Tryz.prog BQ f [.sl (xs.map av), .int .i64 i, .sl (ys.map av)] (.sl (r.map av)):=by
 obtain⟨⟨h0,h1,h2,h3⟩,h⟩:=F8 h;cases h;have:=zL7 hk Ci D8 (xs.map av) (ys.map av) i h0 (by simpa using h1) (by cases ys with|nil=>simp at h2|cons=>simp) (by simpa using h3);simpa[List.map_append,List.map_take,List.map_drop]using this
class HY(P:Program)(el K:Nat)(st it ov:outParam Nat):Prop where
 u:P.underlying st=some (.slice el)
 v:P.underlying it=some (.int .i64)
 i:∃i z,P.info? el=some i/\i.size=K/\i.zero=some z/\z.cells.size=K/\i.bytes<=1000/\0<K
 o:∃fn bt,P.funcs[ov]?=some fn/\(fn.name== "runtime.NumGoroutine")=false/\fn.body.isNone=true/\Extern.findNext fn=none/\Extern.find fn=some (Extern.SlicesOverlaps.overlaps #[st,st] #[bt])
def zM5(P:Program)(el K:Nat):Bool:=match P.info? el with
 |some i=>(match i.zero with|some z=>i.size==K&&z.cells.size==K&&decide (i.bytes<=1000)&&decide (0<K)|none=>false)
 |none=>false
theorem aJ{P:Program}{el K:Nat}(h:zM5 P el K=true):∃i z,P.info? el=some i/\i.size=K/\i.zero=some z/\z.cells.size=K/\i.bytes<=1000/\0<K:=by
 unfold zM5 at h;split at h
 ·rename_i i hi;split at h
  ·rename_i z hz;simp only[Ac,Az,AS]at h;exact⟨i,z,hi,h.1.1.1,hz,h.1.1.2,h.1.2,h.2⟩
  ·cases h
 ·cases h
def Xd(P:Program)(f el K:Nat):Prop:= ∀(w:World) (v:Value) (n:Nat) (cs:List Value) (own:List Nat) (vb vc m:Nat) (VC:Array Value) (vs:List Value),cs.length=n*K->
 ((n=0/\ ∃q,v= .slice q 0 0)\/ ∃g cap C,v= .slice (some ⟨g,0,none⟩) n cap/\Du w el K g cap C n cs/\g∈own)->Du w el K vb vc VC m vs->0<m->(n+m)*1000<=140737488355328->(∀u∈vs,u.oneCell'=true)->
 Calls P f #[v, .int .i64 n, .slice (some ⟨vb,0,none⟩) m vc] w λe w'=> ∃u,e= .returned u/\Qo w w' el K own u (n+m) (cs++vs)
def Xe(P:Program)(f el K:Nat):Prop:= ∀(w:World) (n i g cap:Nat) (C:Array Value) (cs:List Value) (own:List Nat) (vb vc m:Nat) (VC:Array Value) (vs:List Value),Du w el K g cap C n cs->i<n->cap<n+m->Du w el K vb vc VC m vs->0<m->(n+m)*1000<=140737488355328->
 (∀u∈vs,u.oneCell'=true)->(∀u∈cs,u.oneCell'=true)->
 Calls P f #[.slice (some ⟨g,0,none⟩) n cap, .int .i64 i, .slice (some ⟨vb,0,none⟩) m vc] w λe w'=> ∃u,e= .returned u/\Qo w w' el K own u (n+m) (cs.take (i*K)++vs++cs.drop (i*K))
def Xc(P:Program)(f el K:Nat):Prop:= ∀(w:World) (n i g cap:Nat) (C:Array Value) (cs:List Value) (own:List Nat) (vb vc m:Nat) (VC:Array Value) (vs:List Value),Du w el K g cap C n cs->g∈own->i<n->n+m<=cap->vb≠g->Du w el K vb vc VC m vs->0<m->
 (∀u∈vs,u.oneCell'=true)->(∀u∈cs,u.oneCell'=true)->
 Calls P f #[.slice (some ⟨g,0,none⟩) n cap, .int .i64 i, .slice (some ⟨vb,0,none⟩) m vc] w λe w'=> ∃u,e= .returned u/\Qo w w' el K own u (n+m) (cs.take (i*K)++vs++cs.drop (i*K))
theorem mC{P:Program}{f el K:Nat}(h1:Xd P f el K)(h2:Xe P f el K)(h3:Xc P f el K):Lu P f el K:=by
 intro w v n i cs own vb vc m VC vs AG A3 B9 hv RB hm hb Hl Hk;by_cases he:i=n
 ·subst he;refine(h1 w v i cs own vb vc m VC vs AG A3 hv hm hb Hl).mono ?_;rintro e w' ⟨u,rfl,h⟩;refine⟨u,rfl,?_⟩;rw[List.take_of_length_le (by omega),List.drop_eq_nil_of_le (by omega),AH];exact h
 ·rcases A3 with⟨rfl,_⟩|⟨g,cap,C,rfl,hr,hg⟩
  ·omega
  ·by_cases hc:n+m<=cap
   ·exact h3 w n i g cap C cs own vb vc m VC vs hr hg (by omega) hc (RB g hg) hv hm Hl Hk
   ·exact h2 w n i g cap C cs own vb vc m VC vs hr (by omega) (by omega) hv hm hb Hl Hk
theorem zL0{P:Program}{el K st it ov:Nat}[hI:HY P el K st it ov]{w:World}{v:Value}{n:Nat}{cs:List Value}{own:List Nat}{vb vc m:Nat}{VC:Array Value}{vs:List Value}(AG:cs.length=n*K)
  (A3:(n=0/\ ∃q,v= .slice q 0 0)\/ ∃g cap C,v= .slice (some ⟨g,0,none⟩) n cap/\Du w el K g cap C n cs/\g∈own) (hv:Du w el K vb vc VC m vs) (hm:0<m) (hb:(n+m)*1000<=140737488355328) (Hl:∀u∈vs,u.oneCell'=true):
  ∃v' w1,(Builtin.append_ #[st,st] st #[v, .slice (some ⟨vb,0,none⟩) m vc]).run P w= .ok v' w1/\Qo w w1 el K own v' (n+m) (cs++vs):=by
 obtain⟨i0,z0,hi,hs,hz,DE,FF,hK⟩:=hI.i;have DA:Src w i0.size (some ⟨vb,0,none⟩) m vs:= .inr ⟨_,rfl,by rw[hs];exact hv.len,λj u hj=>hv.cell 0 j u (by simpa using hj),Hl⟩;obtain⟨v',w1,hr,A2⟩:=UD (P:=P) w st st el i0 z0 hI.u hi hz (by rw[DE,hs]) (by omega) (λb=>b∈own) v n cs (by rw[hs];exact AG)
  (by
   rcases A3 with h|⟨g,cap,C,rfl,⟨h1,h2,h3,h4,h5⟩,h6⟩
   ·exact .inl h
   ·exact .inr ⟨g,cap,C,rfl,h1,h2,h3,by rw[hs];exact h4,by rw[hs];exact h5,h6⟩)
  (some ⟨vb,0,none⟩) m vc vs DA (by simp only[maxLen];omega) (by have:=Nat.mul_le_mul_left (n+m) FF;omega)
 refine⟨v',w1,hr,?_⟩;rcases A2 with⟨_,_,h⟩|⟨g,cap,C,rfl,h1,h2,h3,h4,h5,h6,h7⟩
 ·omega
 ·refine⟨g,cap,C,rfl,⟨h1,h2,h3,by rw[hs]at h4;exact h4,by rw[hs]at h5;exact h5.symm⟩,?_,h7.symm.imp id λh=>by omega⟩;refine⟨h6.os,h6.tape,h6.output,h6.size,λb hb hn=>h6.block b hb λe=> ?_⟩;cases e;rcases h7 with h7|h7
  ·omega
  ·exact hn h7
theorem zLN{P:Program}{el K st it ov:Nat}[hI:HY P el K st it ov]{w:World}{n i g cap:Nat}{C:Array Value}{cs:List Value}(own:List Nat){vb vc m:Nat}{VC:Array Value}{vs:List Value}(A3:Du w el K g cap C n cs)(B9:i<n)(BT:cap<n+m)
  (hv:Du w el K vb vc VC m vs) (hm:0<m) (hb:(n+m)*1000<=140737488355328) (Hl:∀u∈vs,u.oneCell'=true) (Hk:∀u∈cs,u.oneCell'=true):
  ∃(G:Nat) (ROW ROW2 ROW3:Array Value),n+m<=G/\G<=9223372036854775807/\
   (∀ty,(Builtin.append_ #[st,it] ty #[.slice (some ⟨g,0,none⟩) i cap, .int .i64 ((n:Int)+(m:Int)-(i:Int))]).run P w= .ok (.slice (some ⟨w.heap.size,0,none⟩) (n+m) G) (w.drew.alloc (.cells ROW el)))/\
   (∀(W:World),W.heap=(w.alloc (.cells ROW el)).heap-> ∀ty dc,(Builtin.copy_ #[st,st] ty #[.slice (some ⟨w.heap.size,i*K,none⟩) (n+m-i) dc, .slice (some ⟨vb,0,none⟩) m vc]).run P W= .ok (goInt m) (W.setRow w.heap.size ROW2))/\
   (∀(W:World),W.heap=((w.alloc (.cells ROW el)).setRow w.heap.size ROW2).heap-> ∀ty dc sc,(Builtin.copy_ #[st,st] ty #[.slice (some ⟨w.heap.size,(i+m)*K,none⟩) (n+m-(i+m)) dc, .slice (some ⟨g,i*K,none⟩) (n-i) sc]).run P W= .ok (goInt ((n-i:Nat):Int)) (W.setRow w.heap.size ROW3))/\
   (∀W:World,W.os=w.os->W.tape=w.tape->W.output=w.output->W.heap=(((w.alloc (.cells ROW el)).setRow w.heap.size ROW2).setRow w.heap.size ROW3).heap->Qo w W el K own (.slice (some ⟨w.heap.size,0,none⟩) (n+m) G) (n+m) (cs.take (i*K)++vs++cs.drop (i*K)))/\
   ((w.alloc (.cells ROW el)).drew).heap=(w.alloc (.cells ROW el)).heap/\(((w.alloc (.cells ROW el)).drew.setRow w.heap.size ROW2).drew).heap=((w.alloc (.cells ROW el)).setRow w.heap.size ROW2).heap:=by
 obtain⟨i0,z0,hi,hs,hz,DE,FF,hK⟩:=hI.i;have AG:=A3.len;have EM:=hv.len;have Vq:=A3;obtain⟨MG,Gs,hg,KH,BF⟩:=Vq;have JE:g<w.heap.size:=Dm hg;have hvw:vb<w.heap.size:=Dm hv.2.2.1;have BI:(P.info? el).map (·.size)=some K:=by rw[hi];simp[hs]
 have hik:i+(n+m-i)=n+m:=by omega
 have Zu:(n+m)*i0.bytes<=140737488355328:=Nat.le_trans (Nat.mul_le_mul_left _ FF) hb;have J9:(n+m-i)*i0.bytes<=140737488355328:=Nat.le_trans (By _ (by omega)) Zu;have nY:i*K<=n*K:=By _ (by omega);have hold:(Builtin.firstCells i0.size i (.slice (some ⟨g,0,none⟩) i cap)).run P w.drew= .ok (cs.take (i*K)).toArray w.drew:=by
  rw[hs];exact run_firstCells_some w.drew K i ⟨g,0,none⟩ i cap (cs.take (i*K)) (by rw[AI];omega) (λj v hj=>by
   rw[List.getElem?_take]at hj;split at hj
   ·exact A3.cell 0 j v (by simpa using hj)
   ·cases hj)
 have RA:∀ty,(Builtin.append_ #[st,it] ty #[.slice (some ⟨g,0,none⟩) i cap, .int .i64 ((n:Int)+(m:Int)-(i:Int))]).run P w=
   .ok (.slice (some ⟨w.heap.size,0,none⟩) (n+m) (grownCap w (n+m) cap el)) (w.drew.alloc (.cells ((cs.take (i*K)).toArray++Builtin.zeroCells z0.cells (n+m-i)++Builtin.zeroCells z0.cells (grownCap w (n+m) cap el-(n+m))) el)):=λty=>by
  have h:=Lib.run_append_grow_zeros w st it ty el i0 z0 .i64 .i64 hI.u hI.v hi hz (some ⟨g,0,none⟩) i cap (cs.take (i*K)) hold (n+m-i) (by omega) (by omega) (by omega) (by omega) (by omega) (by rw[hik];exact growslice_fits BT Zu);rw[hik]at h;rw[show(n:Int)+(m:Int)-(i:Int)=((n+m-i:Nat):Int) by omega];exact h
 obtain⟨G,hG⟩:∃G,G=grownCap w (n+m) cap el:=⟨_,rfl⟩
 obtain⟨ROW,Pu⟩:∃ROW:Array Value,ROW=(cs.take (i*K)).toArray++Builtin.zeroCells z0.cells (n+m-i)++Builtin.zeroCells z0.cells (G-(n+m)):=⟨_,rfl⟩
 have Zo:n+m<=G:=by rw[hG];exact grownCap_ge w _ _ _
 have Va:G<=maxLen:=by rw[hG];exact grownCap_le_maxLen w (n+m) cap el (by unfold maxLen;omega)
 rw[<-hG]at RA;rw[<-Pu]at RA;have e1:(i+m)*K=i*K+m*K:=Nat.add_mul ..;have e2:(n+m)*K=n*K+m*K:=Nat.add_mul ..;have e3:(n+m-i)*K=n*K+m*K-i*K:=by rw[Nat.sub_mul,e2]
 have e4:(n-i)*K=n*K-i*K:=Nat.sub_mul ..;have e5:(G-(n+m))*K=G*K-(n*K+m*K):=by rw[Nat.sub_mul,e2]
 have e6:n*K+m*K<=G*K:=by rw[<-e2];exact By _ Zo
 have hRs:ROW.size=G*K:=by rw[Pu];simp only[Array.size_append,List.size_toArray,AI,size_zeroCells,DE];omega
 obtain⟨ROW2,Ve⟩:∃R:Array Value,R=(ROW.toList.take (i*K)++vs++ROW.toList.drop (i*K+vs.length)).toArray:=⟨_,rfl⟩
 obtain⟨ROW3,mR⟩:∃R:Array Value,R=(ROW2.toList.take ((i+m)*K)++cs.drop (i*K)++ROW2.toList.drop ((i+m)*K+(cs.drop (i*K)).length)).toArray:=⟨_,rfl⟩
 have mQ:ROW2.size=G*K:=by rw[Ve];simp only[List.size_toArray,Aq,AI,Br,BL];omega
 have mS:ROW3.size=G*K:=by rw[mR];simp only[List.size_toArray,Aq,AI,Br,BL];omega
 obtain⟨N,hN⟩:∃N,N=w.heap.size:=⟨_,rfl⟩
 have hA:(w.alloc (.cells ROW el)).heap[N]?=some (.cells ROW el (0,0)):=by rw[hN];exact heap_alloc_new w _
 have hO:∀k,k<N->(w.alloc (.cells ROW el)).heap[k]?=w.heap[k]?:=λk hk=>Below.heap_alloc w _ k (by omega);have hB:((w.alloc (.cells ROW el)).setRow N ROW2).heap[N]?=some (.cells ROW2 el (0,0)):=setRow_heap _ _ _ _ _ _ hA;have hO2:∀k,k<N->((w.alloc (.cells ROW el)).setRow N ROW2).heap[k]?=w.heap[k]?:=λk hk=>by rw[setRow_other _ _ _ _ (by omega)];exact hO k hk
 rw[<-hN]at RA ⊢;refine⟨G,ROW,ROW2,ROW3,Zo,Va,RA,λW hW ty dc=> ?_,λW hW ty dc sc=> ?_,λW w1 w2 w3 hW=> ?_,rfl,rfl⟩
 ·have h:=jA (P:=P) W st st ty el K N (i*K) (n+m-i) dc ⟨vb,0,none⟩ m vc ROW el vs hI.u BI (by rw[hW];exact hA) (by rw[EM,show Nat.min m (n+m-i)=m from Nat.min_eq_left (by omega)])
   (λj v hj=>by rw[World.cell?_of_block (w:=w) (by rw[Addr.add_lit,hW];exact hO vb (by omega))];exact hv.cell 0 j v (by simpa using hj)) (by rw[hRs,EM];omega) Hl
  rw[show Nat.min m (n+m-i)=m from Nat.min_eq_left (by omega),<-Ve]at h;exact h
 ·have h:=jA (P:=P) W st st ty el K N ((i+m)*K) (n+m-(i+m)) dc ⟨g,i*K,none⟩ (n-i) sc ROW2 el (cs.drop (i*K)) hI.u BI (by rw[hW];exact hB) (by rw[Br,AG,show Nat.min (n-i) (n+m-(i+m))=n-i from Nat.min_eq_left (by omega)];omega)
   (λj v hj=>by rw[World.cell?_of_block (w:=w) (by rw[Addr.add_lit,hW];exact hO2 g (by omega))];exact A3.cell (i*K) j v hj) (by rw[mQ,Br,AG];omega) (λv hv=>Hk v (BR hv))
  rw[show Nat.min (n-i) (n+m-(i+m))=n-i from Nat.min_eq_left (by omega),<-mR]at h;exact h
 ·refine⟨N,G,ROW3,rfl,⟨Zo,Va,by rw[hW];exact setRow_heap _ _ _ _ _ _ hB,mS,?_⟩,⟨w1,w2,w3,by rw[hW];simp,λk hk _=>by rw[hW,setRow_other _ _ _ _ (by omega)];exact hO2 k (by omega)⟩, .inr (by omega)⟩;have h:=two ((Builtin.zeroCells z0.cells (n+m-i)).toList++(Builtin.zeroCells z0.cells (G-(n+m))).toList) cs vs (i*K) (m*K) (n*K) ROW.toList (by rw[Pu];simp) AG nY EM (by simp only[Aq,BL,size_zeroCells,DE];omega);rw[mR,Ve,Nat.add_mul n m,Nat.add_mul i m];exact h.symm
theorem zMT{P:Program}{el K st it ov:Nat}[hI:HY P el K st it ov]{w:World}{n i g cap:Nat}{C:Array Value}{cs:List Value}{own:List Nat}{vb vc m:Nat}{VC:Array Value}{vs:List Value}(A3:Du w el K g cap C n cs)(Ey:g∈own)(B9:i<n)(BT:n+m<=cap)(RB:vb≠g)
  (hv:Du w el K vb vc VC m vs) (hm:0<m) (Hl:∀u∈vs,u.oneCell'=true) (Hk:∀u∈cs,u.oneCell'=true):
  ∃C1 C2:Array Value,(∀lb cb,(callFunc ov #[.slice (some ⟨vb,0,none⟩) m vc, .slice (some ⟨g,(i+m)*K,none⟩) lb cb]).run P w= .ok (.value (.bool false)) w)/\
   (∀(W:World),W.heap=w.heap-> ∀ty dc sc,(Builtin.copy_ #[st,st] ty #[.slice (some ⟨g,(i+m)*K,none⟩) (n+m-(i+m)) dc, .slice (some ⟨g,i*K,none⟩) (n+m-i) sc]).run P W= .ok (goInt ((n-i:Nat):Int)) (W.setRow g C1))/\
   (∀(W:World),W.heap=(w.setRow g C1).heap-> ∀ty dc,(Builtin.copy_ #[st,st] ty #[.slice (some ⟨g,i*K,none⟩) (n+m-i) dc, .slice (some ⟨vb,0,none⟩) m vc]).run P W= .ok (goInt m) (W.setRow g C2))/\
   (∀W:World,W.os=w.os->W.tape=w.tape->W.output=w.output->W.heap=((w.setRow g C1).setRow g C2).heap->Qo w W el K own (.slice (some ⟨g,0,none⟩) (n+m) cap) (n+m) (cs.take (i*K)++vs++cs.drop (i*K)))/\
   (w.drew).heap=w.heap/\(w.drew.setRow g C1).heap=(w.setRow g C1).heap:=by
 obtain⟨i0,z0,hi,hs,hz,DE,FF,hK⟩:=hI.i;obtain⟨fn,bt,f1,f2,f3,f4,f5⟩:=hI.o;have AG:=A3.len;have EM:=hv.len;have Vq:=A3;obtain⟨MG,Gs,hg,KH,BF⟩:=Vq;have JE:g<w.heap.size:=Dm hg;have BI:(P.info? el).map (·.size)=some K:=by rw[hi];simp[hs]
 have pP:=hv.2.2.1;have nY:i*K<=n*K:=By _ (by omega);have e1:(i+m)*K=i*K+m*K:=Nat.add_mul ..;have e2:(n+m)*K=n*K+m*K:=Nat.add_mul ..;have e3:(n+m-i)*K=n*K+m*K-i*K:=by rw[Nat.sub_mul,e2]
 have e4:(n-i)*K=n*K-i*K:=Nat.sub_mul ..;have e6:n*K+m*K<=cap*K:=by rw[<-e2];exact By _ BT
 have e7:0<cap*K:=Nat.mul_pos (by omega) hK;obtain⟨C1,Jv⟩:∃R:Array Value,R=(C.toList.take ((i+m)*K)++cs.drop (i*K)++C.toList.drop ((i+m)*K+(cs.drop (i*K)).length)).toArray:=⟨_,rfl⟩
 obtain⟨C2,NN⟩:∃R:Array Value,R=(C1.toList.take (i*K)++vs++C1.toList.drop (i*K+vs.length)).toArray:=⟨_,rfl⟩
 have Mm:C1.size=cap*K:=by rw[Jv];simp only[List.size_toArray,Aq,AI,Br,BL];omega
 have Mn:C2.size=cap*K:=by rw[NN];simp only[List.size_toArray,Aq,AI,Br,BL];omega
 have hB:(w.setRow g C1).heap[g]?=some (.cells C1 el (0,0)):=setRow_heap _ _ _ _ _ _ hg;have MF:Nat.min (n+m-i) (n+m-(i+m))=n-i:=by rw[show Nat.min (n+m-i) (n+m-(i+m))=n+m-(i+m)from Nat.min_eq_right (by omega)];omega
 refine⟨C1,C2,λlb cb=> ?_,λW hW ty dc sc=> ?_,λW hW ty dc=> ?_,λW w1 w2 w3 hW=> ?_,rfl,rfl⟩
 ·rw[run_callFunc_extern f1 f2 f3 f4 f5,Lib.run_overlaps_apart w st bt el hI.u K (λw=>by simp[Go.sizeOf,typeInfo,hi,hs]) ⟨vb,0,none⟩ ⟨g,(i+m)*K,none⟩ m vc lb cb RB el el VC.size C.size (by simp[World.shape?,pP]) (by simp[World.shape?,hg]) (by omega) (by simp[World.frozen?,pP]) (by simp[World.frozen?,pP])];rfl
 ·have h:=jA (P:=P) W st st ty el K g ((i+m)*K) (n+m-(i+m)) dc ⟨g,i*K,none⟩ (n+m-i) sc C el (cs.drop (i*K)) hI.u BI (by rw[hW];exact hg) (by rw[Br,AG,MF];omega)
   (λj v hj=>by rw[World.cell?_of_block (w:=w) (by rw[hW])];exact A3.cell (i*K) j v hj) (by rw[KH,Br,AG];omega) (λv hv=>Hk v (BR hv))
  rw[MF,<-Jv]at h;exact h
 ·have h:=jA (P:=P) W st st ty el K g (i*K) (n+m-i) dc ⟨vb,0,none⟩ m vc C1 el vs hI.u BI (by rw[hW];exact hB) (by rw[EM,show Nat.min m (n+m-i)=m from Nat.min_eq_left (by omega)])
   (λj v hj=>by rw[World.cell?_of_block (w:=w) (by rw[Addr.add_lit,hW];exact setRow_other _ _ _ _ (by simpa using RB))];exact hv.cell 0 j v (by simpa using hj)) (by rw[Mm,EM];omega) Hl
  rw[show Nat.min m (n+m-i)=m from Nat.min_eq_left (by omega),<-NN]at h;exact h
 ·have no:∀k,¬k∈own->k≠g:=λk hn e=>hn (e▸Ey);refine⟨g,cap,C2,rfl,⟨BT,Gs,by rw[hW];exact setRow_heap _ _ _ _ _ _ hB,Mn,?_⟩,⟨w1,w2,w3,by rw[hW];simp,λk hk hn=>by rw[hW,setRow_other _ _ _ _ (by first|exact no k hn|exact(no k hn).symm),setRow_other _ _ _ _ (by first|exact no k hn|exact(no k hn).symm)]⟩, .inl Ey⟩;have h:=zQP C.toList cs vs (i*K) (m*K) (n*K) BF nY EM (by rw[BL,KH];omega);rw[NN,Jv,Nat.add_mul n m,Nat.add_mul i m];exact h.symm
instance inf_Write:HY Tryz.prog 138 3 66 3 267:=⟨Tryz.underlying66,Tryz.underlying3,aJ (by kernel_rfl),_,4,Tryz.func267,by kernel_rfl,by kernel_rfl,by kernel_rfl,by kernel_rfl⟩
instance inf_Held:HY Tryz.prog 262 5 132 3 400:=⟨Tryz.underlying132,Tryz.underlying3,aJ (by kernel_rfl),_,4,Tryz.func400,by kernel_rfl,by kernel_rfl,by kernel_rfl,by kernel_rfl⟩
instance inf_Told:HY Tryz.prog 406 3 133 3 420:=⟨Tryz.underlying133,Tryz.underlying3,aJ (by kernel_rfl),_,4,Tryz.func420,by kernel_rfl,by kernel_rfl,by kernel_rfl,by kernel_rfl⟩
instance inf_Cell:HY Tryz.prog 220 2 131 3 431:=⟨Tryz.underlying131,Tryz.underlying3,aJ (by kernel_rfl),_,4,Tryz.func431,by kernel_rfl,by kernel_rfl,by kernel_rfl,by kernel_rfl⟩
set_option maxHeartbeats 16000000 in
theorem mF:Xd Tryz.prog 170 138 3/\Xd Tryz.prog 363 262 5/\Xd Tryz.prog 392 406 3/\Xd Tryz.prog 418 220 2:=by
 refine⟨?_,?_,?_,?_⟩<;>(
  intro w v n cs own vb vc m VC vs AG A3 hv hm hb Hl;obtain⟨v',w1,hr,fin⟩:=zL0 (P:=Tryz.prog) AG A3 hv hm hb Hl;have ZP: ¬((m:Int)=0):=by omega
  clear hv Hl AG;rcases A3 with⟨rfl,_|⟨qb,qo,qs⟩,rfl⟩|⟨g,cap,C,rfl,_,_⟩<;>(
   first|go_enter Tryz.func170,Tryz.ntmps170|go_enter Tryz.func363,Tryz.ntmps363|go_enter Tryz.func392,Tryz.ntmps392|go_enter Tryz.func418,Tryz.ntmps418
   go_wp2_with (at_builtin;refine Lib.wpList_append_run _ rfl _ _ _ _ rfl _ _ rfl rfl _ _ hr ?_)
   all_goals (go_ret;exact⟨_,rfl,fin⟩)))
set_option maxHeartbeats 16000000 in
theorem lY:Xe Tryz.prog 170 138 3/\Xe Tryz.prog 363 262 5/\Xe Tryz.prog 392 406 3/\Xe Tryz.prog 418 220 2:=by
 refine⟨?_,?_,?_,?_⟩<;>(
  intro w n i g cap C cs own vb vc m VC vs A3 B9 BT hv hm hb Hl Hk;obtain⟨G,ROW,ROW2,ROW3,Zo,hG64,RA,nI,Vv,fin,hE1,mK⟩:=zLN (P:=Tryz.prog) own A3 B9 BT hv hm hb Hl Hk;obtain⟨MG,Gs,hg,KH, -⟩:=A3;have JE:=Dm hg;have ZP: ¬((m:Int)=0):=by omega
  have Qb: ¬((i:Int)=(n:Int)):=by omega
  have hz3:(cap:Int)<(n:Int)+(m:Int):=by omega
  have hGi: ¬(G=i):=by omega
  have hGim: ¬(G=i+m):=by omega
  have Vs: ¬(cap=i):=by omega
  have MP:IntKind.i64.wrap ((i:Int)+(m:Int))=(i:Int)+(m:Int):=by rw[IntKind.wrap_i64];omega
  have CF:(0:Int)<=(i:Int)+(m:Int):=by omega
  have VI:i<=n:=by omega
  have ZL:((i:Int)+(m:Int)).toNat=i+m:=by omega
  have GK:(i:Int)<=(n:Int):=by omega
  first|go_enter Tryz.func170,Tryz.ntmps170|go_enter Tryz.func363,Tryz.ntmps363|go_enter Tryz.func392,Tryz.ntmps392|go_enter Tryz.func418,Tryz.ntmps418
  go_wp2_with (first
   |(at_builtin;refine Lib.wpList_append_run _ rfl _ _ _ _ rfl _ _ rfl rfl _ _ (RA _) ?_)
   |(at_builtin;refine zpv _ rfl _ _ _ _ rfl _ _ rfl rfl (nI _ hE1 _ _) ?_)
   |(at_builtin;refine zpv _ rfl _ _ _ _ rfl _ _ rfl rfl (Vv _ rfl _ _ _) ?_))
  go_region_law (refine zys rfl _ _ _ _ rfl _ _ (by simp[Act.eval,Act.put]) (by simp[Act.eval,Act.put]) (Vv _ mK _ (G-(i+m)) (cap-i)) ?_)
  go_wp2
  go_ret
  exact⟨_,rfl,fin _ rfl rfl rfl rfl⟩)
set_option maxHeartbeats 16000000 in
theorem lV:Xc Tryz.prog 170 138 3/\Xc Tryz.prog 363 262 5/\Xc Tryz.prog 392 406 3/\Xc Tryz.prog 418 220 2:=by
 refine⟨?_,?_,?_,?_⟩<;>(
  intro w n i g cap C cs own vb vc m VC vs A3 Ey B9 BT RB hv hm Hl Hk;obtain⟨C1,C2,oU,nG,nH,fin,mK,hF2⟩:=zMT (P:=Tryz.prog) A3 Ey B9 BT RB hv hm Hl Hk;obtain⟨MG,Vn,hg,KH, -⟩:=A3;have Vn:cap<=9223372036854775807:=Vn;have JE:=Dm hg;have ZP: ¬((m:Int)=0):=by omega
  have Qb: ¬((i:Int)=(n:Int)):=by omega
  have hz3: ¬((cap:Int)<(n:Int)+(m:Int)):=by omega
  have Vs: ¬(cap=i):=by omega
  have hcim: ¬(cap=i+m):=by omega
  have MP:IntKind.i64.wrap ((i:Int)+(m:Int))=(i:Int)+(m:Int):=by rw[IntKind.wrap_i64];omega
  have CF:(0:Int)<=(i:Int)+(m:Int):=by omega
  have VI:i<=n:=by omega
  have ZL:((i:Int)+(m:Int)).toNat=i+m:=by omega
  have GK:(i:Int)<=(n:Int):=by omega
  have hb4:(i:Int)<=(n:Int)+(m:Int):=by omega
  clear hg hv
  first|go_enter Tryz.func170,Tryz.ntmps170|go_enter Tryz.func363,Tryz.ntmps363|go_enter Tryz.func392,Tryz.ntmps392|go_enter Tryz.func418,Tryz.ntmps418
  go_wp2_with (simp only[oU])
  go_region_law (refine zys rfl _ _ _ _ rfl _ _ (by simp[Act.eval,Act.put]) (by simp[Act.eval,Act.put]) (nG _ mK _ (cap-(i+m)) (cap-i)) ?_)
  go_wp2_with (at_builtin;refine zpv _ rfl _ _ _ _ rfl _ _ rfl rfl (nH _ hF2 _ _) ?_)
  go_ret
  exact⟨_,rfl,fin _ rfl rfl rfl rfl⟩)
theorem zKy:Lu Tryz.prog 170 138 3:=mC mF.1 lY.1 lV.1
theorem zMl:Lu Tryz.prog 363 262 5:=mC mF.2.1 lY.2.1 lV.2.1
theorem zLb:Lu Tryz.prog 392 406 3:=mC mF.2.2.1 lY.2.2.1 lV.2.2.1
theorem zKL:Lu Tryz.prog 418 220 2:=mC mF.2.2.2 lY.2.2.2 lV.2.2.2
theorem zKu:∃i z,Tryz.prog.info? 262=some i/\i.size=5/\i.zero=some z/\z.cells.size=5/\ ∀u∈z.cells,u.oneCell'=true:=by
 have h:(match Tryz.prog.info? 262 with|some i=>(match i.zero with|some z=>i.size==5&&z.cells.size==5&&z.cells.all (λu=>u.oneCell')|none=>false)|none=>false)=true:=by kernel_rfl
 split at h
 ·rename_i i hi;split at h
  ·rename_i z hz;simp only[Ac,Az,Array.all_eq_true_iff_forall_mem]at h;exact⟨i,z,hi,h.1.1,hz,h.1.2,h.2⟩
  ·cases h
 ·cases h
set_option maxHeartbeats 4000000 in
theorem zMq:uD Tryz.prog 391 262 5:=by
 intro w n i j g cap C cs A3 Gt hjn h1;obtain⟨i0,z0,hi,hs,hz,DE,hzo⟩:=zKu;have hv:∀w,(zeroValue 262).run Tryz.prog w= .ok z0 w:=λw=>by simp[zeroValue,typeInfo,hi,hz]
 obtain⟨d,rfl⟩:∃d,j=i+d:=⟨j-i,by omega⟩
 obtain⟨m,rfl⟩:∃m,n=i+d+m:=⟨n-(i+d),by omega⟩
 have AG:=A3.len;have Vq:=A3;obtain⟨MG,Gs,hg,KH,BF⟩:=Vq;have hcm':cap<=9223372036854775807:=Gs;have hmul:=By 5 MG;obtain⟨news,Dx⟩:∃s,s=cs.drop ((i+d)*5):=⟨_,rfl⟩
 have K1:news.length=m*5:=by rw[Dx,Br,AG];omega
 have h1n:∀u∈news,u.oneCell'=true:=λu hu=>by rw[Dx]at hu;exact h1 u (BR hu)
 obtain⟨C1,Jv⟩:∃R:Array Value,R=(C.toList.take (i*5)++news++C.toList.drop (i*5+news.length)).toArray:=⟨_,rfl⟩
 have Mm:C1.size=cap*5:=by rw[Jv];simp only[List.size_toArray,Aq,AI,Br,BL];omega
 obtain⟨A,hA,DA⟩:∃A:Addr,(if cap=i+d then some (⟨g,0,none⟩:Addr)else some ⟨g,(i+d)*5,none⟩)=some A/\ ∀q u,news[q]?=some u->w.cell? (A.add q)=some u:=by
  by_cases h:cap=i+d
  ·refine⟨⟨g,0,none⟩,by simp[h],λq u hu=> ?_⟩;have CG:m=0:=by omega
   have h0:news.length=0:=by rw[K1,CG,Nat.zero_mul]
   rw[List.length_eq_zero_iff.1 h0]at hu;simp at hu
  ·refine⟨⟨g,(i+d)*5,none⟩,by simp[h],λq u hu=> ?_⟩;exact A3.cell ((i+d)*5) q u (by rw[<-Dx];exact hu)
 have IT:∀(W:World),W.heap=w.heap-> ∀ty,(Builtin.append_ #[132,132] ty #[.slice (some ⟨g,0,none⟩) i cap, .slice (some A) m (cap-(i+d))]).run Tryz.prog W= .ok (.slice (some ⟨g,0,none⟩) (i+m) cap) (W.setRow g C1):=λW hW ty=>by rw[Jv];exact zvU W 132 ty 262 i0 Tryz.underlying132 hi 5 hs g i cap A m (cap-(i+d)) C news (by rw[hW];exact hg) K1 (λq u hu=>by rw[World.cell?_of_block (w:=w) (by rw[hW])];exact DA q u hu) h1n (by omega) (by rw[KH,K1];omega)
 obtain⟨W1,Vg⟩:∃W1,W1=w.drew.setRow g C1:=⟨_,rfl⟩
 have Pv:W1.heap[g]?=some (.cells C1 262 (0,0)):=by rw[Vg];exact setRow_heap _ _ _ _ _ _ hg
 obtain⟨C2,NN⟩:∃R:Array Value,R=(C1.toList.take ((i+m)*5)++(Builtin.zeroCells z0.cells d).toList++C1.toList.drop ((i+m)*5+(Builtin.zeroCells z0.cells d).toList.length)).toArray:=⟨_,rfl⟩
 have Mn:C2.size=cap*5:=by rw[NN];simp only[List.size_toArray,Aq,AI,Br,BL,size_zeroCells,DE];omega
 have hcr:∀ty N c,N=d->(Builtin.clear_ #[132] ty #[.slice (some ⟨g,(i+m)*5,none⟩) N c]).run Tryz.prog W1= .ok (.tuple #[]) (W1.setRow g C2):=λty N c hN=>by subst hN;rw[NN];exact zHl W1 132 262 ty z0 Tryz.underlying132 hv hzo g ((i+m)*5) N c C1 (by omega) Pv (by rw[DE,Mm];omega)
 have fin:∀W:World,W.os=w.os->W.tape=w.tape->W.output=w.output->W.heap=(W1.setRow g C2).heap-> ∃C',Du W 262 5 g cap C' (i+m) (cs.take (i*5)++cs.drop ((i+d)*5))/\Mod [g] w W:=λW w1 w2 w3 hW=>by
  refine⟨C2,⟨by omega,Gs,by rw[hW];exact setRow_heap _ _ _ _ _ _ Pv,Mn,?_⟩,w1,w2,w3,by rw[hW,Vg];simp,λk hk hn=>by rw[hW,setRow_other _ _ _ _ (by simpa using hn),Vg,setRow_other _ _ _ _ (by simpa using hn)];rfl⟩;have l1:(C.toList.take (i*5)).length=i*5:=by rw[AI,BL,KH];omega
  have e1:C1.toList.take ((i+m)*5)=C.toList.take (i*5)++news:=by
   rw[Jv];show(C.toList.take (i*5)++news++_).take _=_;have l2:(C.toList.take (i*5)++news).length=(i+m)*5:=by rw[Aq,l1,K1];omega
   rw[<-l2];exact List.take_left
  rw[NN];show _=(C1.toList.take ((i+m)*5)++_++_).take _;rw[e1,List.append_assoc,<-Dx,BF,List.take_take];have l2:(C.toList.take (i*5)++news).length=(i+m)*5:=by rw[Aq,l1,K1];omega
  rw[<-l2,List.take_left,Nat.min_eq_left (by omega)]
 have PL: ¬cap=i+m:=by omega
 have HW:=Lib.hid Vg;have Zw:0<d:=by omega
 have BY: ¬(i:Int)=(i:Int)+(d:Int):=by omega
 have h2:i<=cap:=by omega
 have h3:i+d<=cap:=by omega
 have mixed:Tryz.prog.follows Departure.mixedOrders=true:=by kernel_rfl
 have CF:(0:Int)<=(i:Int)+(d:Int):=by omega
 have FE:(i:Int)+(d:Int)<=(i:Int)+(d:Int)+(m:Int):=by omega
 have ZL:((i:Int)+(d:Int)).toNat=i+d:=by omega
 have hmn:i+d+m-(i+d)=m:=by omega
 have hcr2:=λty=>hcr ty (i+d+m-(i+m)) (cap-(i+m)) (by omega);clear hcr;clear A3 BF KH hg DA Dx K1 h1n Jv Mm NN Mn Pv Vg DE hzo hz hi hs hv hmul AG h1
 go_enter Tryz.func391,Tryz.ntmps391
 go_wp2_with fail
 go_region_law_o (refine zvr rfl _ _ 132 rfl (.slice (some ⟨g,0,none⟩) i cap) (.slice (some A) m (cap-(i+d))) (by simp[Act.eval,Act.put]) (by simp[Act.eval,Act.put]) (IT _ rfl) ?_;rw[<-HW.out])
 go_wp2
 go_ret
 obtain⟨C',f1,f2⟩:=fin _ (by rw[HW.out];rfl) (by rw[HW.out];rfl) (by rw[HW.out];rfl) rfl;exact⟨C',by simp;omega,by rw[show i+d+m-(i+d-i)=i+m by omega];exact f1,f2⟩
end Go.Proofs.YtlmjpjceiefpoaaGreat
end
section
namespace Go.Proofs.YtlmjpjceiefpoaaGreat
open Go.RowKit Go.Sort
set_option maxRecDepth 100000
def zPL(P:Program)(sg:BW)(f:Nat)(t el K:Nat):Bool:=
 match P.funcs[f]?,sg f with
 |some fn,some s=>(match s.c8,s.res,s.ft,s.lo with
  | [.va [true]],[true],[],[]=>true
  |_,_,_,_=>false)&&fn.body.isSome&& !(fn.name== "runtime.NumGoroutine")&&fn.params.toList==[t]&&fn.resultTypes.toList==[t]&&fn.nfree==0&& !Ar P t&&Bc P t==[t]&&CK P t==some el&&Ch P el&&P.cellsOf el==K&&FL P t [true]&&fn.params.size==1
 |_,_=>false
theorem zwF{w:World}{b q:Nat}{d:Array (List UInt8)}{C:Array Value}{el:TypeId}(h:w.heap[b]?=some (.cells C el (0,0))):
  (putRow encStr (Sort.ahead w q) b 0 d).heap[b]?=some (.cells (Go.Sort.putCells encStr 0 d C) el (0,0)):=by
 show(w.heap.modify b (onCells (Go.Sort.putCells encStr 0 d)))[b]?=_;rw[Array.getElem?_modify,if_pos rfl,h];rfl
theorem zzC{w:World}{b q:Nat}{d:Array (List UInt8)}:Mod [b] w (putRow encStr (Sort.ahead w q) b 0 d):=by
 refine⟨rfl,rfl,rfl,?_,λj hj hn=> ?_⟩
 ·show w.heap.size<=(w.heap.modify b (onCells (Go.Sort.putCells encStr 0 d))).size;simp
 ·show(w.heap.modify b (onCells (Go.Sort.putCells encStr 0 d)))[j]?=_;rw[Array.getElem?_modify,if_neg (by simpa[eq_comm]using hn)]
theorem zwk(C:Array Value)(r:List (List UInt8))(z:List (List UInt8))(h:r.length+z.length<=C.size):(Go.Sort.putCells encStr 0 (r++z).toArray C).toList.take r.length=r.map encStr:=by
 apply List.ext_getElem?;intro j;by_cases hj:j<r.length
 ·have hc:j<C.size:=by omega
  rw[List.getElem?_take,if_pos hj,List.getElem?_map,AM hj,Option.map_some,Array.getElem?_toList];have:j<(Go.Sort.putCells encStr 0 (r++z).toArray C).size:=by simp[Go.Sort.putCells];exact hc
  rw[Array.getElem?_eq_getElem this];simp only[Go.Sort.putCells,Array.getElem_mapIdx,Nat.zero_le,true_and,Nat.zero_add,Nat.sub_zero];rw[if_pos (by simp;omega)];have h2:j<(r++z).toArray.size:=by simp;omega
  rw[getElem!_pos _ j h2];simp[hj]
 ·rw[List.getElem?_take,if_neg hj,List.getElem?_eq_none (by simpa using hj)]
theorem zNk(b:ByteArray):encStr b.data.toList= .string b:=by show Value.string ⟨b.data.toList.toArray⟩= .string b;cases b;simp
theorem sF{w:World}:∀(r:List (List UInt8)),(∀s∈r,s.length<=9223372036854775807)->Rd w (r.map encStr) (AA (r.map CC)) []
 | [],_=>by simpa[AA]using Rd.nil
 |s::r,h=>by
  have e:AA ((s::r).map CC)= .str s::AA (r.map CC):=by simp[AA,CC,AV.cells]
  rw[e,List.map_cons];have:=Rd.str (w:=w) (s:=⟨s.toArray⟩) (by show s.toArray.size<=_;simpa using h s (by simp)) (sF r λx hx=>h x (by simp[hx]));simpa using this
theorem zui{w:World}:∀{cs:List Value} {xs:List (List UInt8)} {f:List Nat},Rd w cs (AA (xs.map CC)) f-> ∀s∈xs,s.length<=9223372036854775807
 |cs,[],f,_=>by simp
 |cs,x::xs,f,h=>by
  have e:AA ((x::xs).map CC)= .str x::AA (xs.map CC):=by simp[AA,CC,AV.cells]
  rw[e]at h;cases h with
  |str a h=>
   intro s hs;rcases Ag.1 hs with rfl|hs
   ·simpa using a
   ·exact zui h s hs
theorem zxC(zs:List (List UInt8)):∀s∈Lib.compact zs,s∈zs:=by
 intro s hs;unfold Lib.compact Lib.compactUpTo at hs;obtain⟨j,hj,rfl⟩:=List.mem_map.1 hs;have AQ:j<zs.length:=by simpa using(List.mem_filter.1 hj).1
 rw[getElem!_pos _ j (by simpa using AQ)];simp
theorem zFk{f t el:Nat}(hk:zPL Tryz.prog BQ f t el 1=true)(Ci:∀r,HX Tryz.prog BQ f r=true)
  (hC:∀(blk cap:Nat) (zs:List (List UInt8)) (w:World),Holds encStr w blk 0 zs.toArray->zs.length<=9223372036854775807->zs.length<=cap->
   Calls Tryz.prog f #[.slice (some ⟨blk,0,none⟩) zs.length cap] w λe w'=>e= .returned (.slice (some ⟨blk,0,none⟩) (Lib.compact zs).length cap)/\ ∃q,w'=putRow encStr (Sort.ahead w q) blk 0 (Lib.compact zs++List.replicate (zs.length-(Lib.compact zs).length) []).toArray)
  (h0:∀a cap w,Calls Tryz.prog f #[.slice a 0 cap] w λe w'=>e= .returned (.slice a 0 cap)/\w'=w)
  (xs:List (List UInt8)):Cp Tryz.prog BQ f [.sl (xs.map CC)] (.sl ((Lib.compact xs).map CC)):=by
 unfold zPL at hk;split at hk
 ·rename_i fn s hf hs;simp only[Ac,Bk,Az]at hk;obtain⟨⟨⟨⟨⟨⟨⟨⟨⟨⟨⟨⟨g1,g2⟩,g3⟩,g4⟩,g5⟩,g6⟩,g7⟩,g8⟩,g9⟩,g10⟩,g11⟩,g12⟩,g13⟩:=hk;obtain⟨hm,hr,Cr,Ca⟩:s.c8=[.va [true]]/\s.res=[true]/\s.ft=[]/\s.lo=[]:=by
   split at g1
   ·rename_i a b c d;exact⟨a,b,c,d⟩
   ·cases g1
  have AG:=Lib.compact_length_le xs;unfold Cp;rw[if_pos (Kw f s hs)];refine⟨s,hs,fn,hf,g2,g3,by have:=Ci ((Lib.compact xs).map CC);unfold HX at this;rw[hf,hs]at this;exact this,by simp[g6,g13],by simp[Cr],λw vs rf lf A9 Am hd _ BX Ea=> ?_⟩;rw[g4,Cr,AH,hm,Ca]at Am;cases Am with
  |lent h _ _ _=>cases h
  | @cons _ _ _ _ v1 vs1 _ _ f1 k1 rf1 lf1 BN a1 Am=>
   cases Am;obtain⟨rfl,r1⟩:=kX g7 g8 g9 g10 a1;obtain⟨xs',cs,e1,p0,p1,p2,p3,p4,p5⟩:=r1.mg;cases e1;rw[g11]at p0 p1 p2 p5;have fin:∀{w':World} {v':Value} {top:List Nat},Mod k1 w w'->Df w' el 1 v' (.sl ((Lib.compact xs).map CC)) top []->top.Nodup->(∀b∈top,b∈k1/\b<w'.heap.size)->uM Tryz.prog fn s w [v1] ([]++ []) (k1++ []) (.sl ((Lib.compact xs).map CC)) v' w':=by
    intro w' v' top Bg Bj D9 Cs;refine⟨⟨_,[],[],top,[],[],rfl,?_,?_,by simpa using D9,?_,by simp⟩,Bg.weaken λb hb=> .inl (by simp[hb])⟩
    ·rw[g5];show DM Tryz.prog w' t s.res _ _ [] top;unfold DM;rw[hr,if_pos g12];refine⟨[v'],[.sl ((Lib.compact xs).map CC)],by rw[g7];simp,?_⟩;rw[g8];have:=CA.own (P:=Tryz.prog) (t:=t) (ts:=[]) (fl:=[true]) (us:=[]) (ys:=[]) (rf:=[]) (hs:=[]) rfl g9 (.inl ⟨g10,rfl⟩) (by rw[g11];exact Bj) .nil;simpa using this
    ·rw[g4,Cr,AH,hm];exact .va rfl .nil
    ·intro b hb;simp only[AH]at hb;exact⟨.inl (by simpa using(Cs b hb).1),(Cs b hb).2⟩
   rcases p5 with⟨EJ,rfl,q,rfl⟩|⟨g,cap,C,rfl,⟨z1,z2,z3,z4,z5⟩,rfl⟩
   ·have Db:xs=[]:=by simpa using EJ
    subst Db;refine(h0 q 0 w).mono ?_;rintro e w' ⟨rfl,rfl⟩;have:Lib.compact ([]:List (List UInt8))=[]:=rfl;exact⟨_,rfl,fin (Mod.refl _ _) ⟨[],by rw[this];rfl,by simp,by omega, .inl ⟨rfl,⟨q,rfl⟩,rfl,rfl⟩⟩ (by simp) (by simp)⟩
   ·rw[List.length_map]at z1 z5;obtain⟨bs,b1,b2⟩:=jZ p3;have Ru:=Dm z3;have Bv:∀o,w.cell? ⟨g,o,none⟩=C[o]?:=YM z3;have BF:cs=xs.map encStr:=by
     rw[b1,<-b2,List.map_map];exact List.map_congr_left λb _=>(zNk b).symm
    have hH:Holds encStr w g 0 xs.toArray:=by
     intro j hj;have Kc:j<xs.length:=by simpa using hj
     refine⟨?_,iW z3⟩;rw[Bv,Nat.zero_add];have e1:C[j]?=cs[j]?:=by rw[z5,List.getElem?_take,if_pos (by omega)];simp
     rw[e1,BF,List.getElem?_map,AM Kc,getElem!_pos _ j hj];simp
    have hc:=hC g cap xs w hH (by unfold maxLen at z2;omega) z1;rw[List.length_map]at fin ⊢;refine hc.mono ?_;rintro e w' ⟨rfl,q,rfl⟩;have E6:=zwF (q:=q) (d:=(Lib.compact xs++List.replicate (xs.length-(Lib.compact xs).length) []).toArray) z3;refine⟨_,rfl,fin (top:=[g]) zzC ?_ (by simp) (λb hb=>by rw[List.mem_singleton]at hb;subst hb;exact⟨by simp,Dm E6⟩)⟩;have B4:=zwk C (Lib.compact xs) (List.replicate (xs.length-(Lib.compact xs).length) []) (by rw[List.length_replicate,z4];omega);refine⟨_,rfl,λy hy=> ?_,by omega, .inr ⟨g,cap,_,by simp,by rw[List.length_map];omega,z2,E6,by simp[Go.Sort.putCells,z4],rfl,?_,?_⟩⟩
    ·obtain⟨x,_,rfl⟩:=List.mem_map.1 hy;rfl
    ·rw[List.length_map,Nat.mul_one,B4];intro u hu;obtain⟨x,_,rfl⟩:=List.mem_map.1 hu;rfl
    ·rw[List.length_map,Nat.mul_one,B4];exact sF _ λs hs=>zui p3 s (zxC xs s hs)
 ·cases hk
noncomputable def bQ(xs:List (List UInt8)):Option (List (List UInt8)):=some (Lib.compact xs)
theorem zj0(a0 r:List (List UInt8))(h:bQ a0=some r):Cp Tryz.prog BQ 424 [.sl (a0.map CC)] (.sl (r.map CC)):=by cases h;exact zFk (t:=26) (el:=9) (by kernel_rfl) (λ_=>by kernel_rfl) (λblk cap zs w hH h1 h2=>Tryz.slices_Compact_string blk 0 cap zs w hH h1 h2) (λa cap w=>Tryz.slices_Compact_string_empty a cap w) a0
def zQh(P:Program)(sg:BW)(f:Nat)(t el K:Nat):Bool:=
 match P.funcs[f]?,sg f with
 |some fn,some s=>(match s.c8,s.res,s.ft,s.lo with
  | [.mu [true]],[],[],[]=>true
  |_,_,_,_=>false)&&fn.body.isSome&& !(fn.name== "runtime.NumGoroutine")&&fn.params.toList==[t]&&fn.resultTypes.toList==[]&&fn.nfree==0&& !Ar P t&&Bc P t==[t]&&CK P t==some el&&Ch P el&&P.cellsOf el==K&&fn.params.size==1
 |_,_=>false
theorem zJw{w:World}{b q:Nat}{d:Array (List UInt8)}{C:Array Value}{el:TypeId}{os:Array Obj}(h:w.heap[b]?=some (.cells C el (0,0))):
  (grow (putRow encStr (Sort.ahead w q) b 0 d) os).heap[b]?=some (.cells (Go.Sort.putCells encStr 0 d C) el (0,0)):=by
 have h1:=zwF (q:=q) (d:=d) h;show((putRow encStr (Sort.ahead w q) b 0 d).heap++os)[b]?=_;rw[Array.getElem?_append_left (Dm h1),h1]
theorem zMI{w:World}{b q:Nat}{d:Array (List UInt8)}{os:Array Obj}:Mod [b] w (grow (putRow encStr (Sort.ahead w q) b 0 d) os):=by
 have h:=zzC (w:=w) (b:=b) (q:=q) (d:=d);have hs:=h.size;refine⟨h.os,h.tape,h.output,?_,λj hj hn=> ?_⟩
 ·show w.heap.size<=((putRow encStr (Sort.ahead w q) b 0 d).heap++os).size;simp only[Array.size_append];omega
 ·show((putRow encStr (Sort.ahead w q) b 0 d).heap++os)[j]?=_;rw[Array.getElem?_append_left (by omega)];exact h.block j hj hn
def Gq(xs:List (List UInt8)):List (List UInt8):=xs.mergeSort λx y=>decide (x<=y)
theorem kR(xs:List (List UInt8)):(Gq xs).Perm xs:=List.mergeSort_perm _ _
theorem zJm{f t el:Nat}(hk:zQh Tryz.prog BQ f t el 1=true)
  (hC:∀(blk cap:Nat) (zs:List (List UInt8)) (w:World),Holds encStr w blk 0 zs.toArray->blk<w.heap.size->zs.length<4611686018427387904->
   Calls Tryz.prog f #[.slice (some ⟨blk,0,none⟩) zs.length cap] w λe w'=>e= .returned (.tuple #[])/\ ∃n os,w'=grow (putRow encStr (Sort.ahead w n) blk 0 (zs.mergeSort λx y=>decide (x<=y)).toArray) os)
  (h0:∀a cap w,Calls Tryz.prog f #[.slice a 0 cap] w λe w'=>e= .returned (.tuple #[])/\w'=w)
  (xs:List (List UInt8)) (hb:xs.length<4611686018427387904):Cp Tryz.prog BQ f [.sl (xs.map CC)] (.tup [.tup [], .sl ((Gq xs).map CC)]):=by
 unfold zQh at hk;split at hk
 ·rename_i fn s hf hs;simp only[Ac,Bk,Az]at hk;obtain⟨⟨⟨⟨⟨⟨⟨⟨⟨⟨⟨g1,g2⟩,g3⟩,g4⟩,g5⟩,g6⟩,g7⟩,g8⟩,g9⟩,g10⟩,g11⟩,g13⟩:=hk;obtain⟨hm,hr,Cr,Ca⟩:s.c8=[.mu [true]]/\s.res=[]/\s.ft=[]/\s.lo=[]:=by
   split at g1
   ·rename_i a b c d;exact⟨a,b,c,d⟩
   ·cases g1
  have hp:=kR xs;have G0:=hp.length_eq;unfold Cp;rw[if_pos (Kw f s hs)];refine⟨s,hs,fn,hf,g2,g3,?_,by simp[g6,g13],by simp[Cr],λw vs rf lf A9 Am hd _ BX Ea=> ?_⟩
  ·unfold Nq WK;rw[g4,g5,Cr,AH,hm];simp[BM,Wv,Js]
  rw[g4,Cr,AH,hm,Ca]at Am;cases Am with
  |lent h _ _ _=>cases h
  | @cons _ _ _ _ v1 vs1 _ _ f1 k1 rf1 lf1 BN a1 Am=>
   cases Am;obtain⟨rfl,r1⟩:=kX g7 g8 g9 g10 a1;obtain⟨xs',cs,e1,p0,p1,p2,p3,p4,p5⟩:=r1.mg;cases e1;rw[g11]at p0 p1 p2 p5;have MQ:(xs.map CC).length=xs.length:=by simp
   rcases p5 with⟨EJ,rfl,q,rfl⟩|⟨g,cap,C,rfl,⟨z1,z2,z3,z4,z5⟩,rfl⟩
   ·have Db:xs=[]:=by simpa using EJ
    subst Db;have hS0:Gq []=[]:=by simpa using G0
    refine(h0 q 0 w).mono ?_;rintro e w' ⟨rfl,rfl⟩;refine⟨_,rfl,⟨⟨.tup [],[.sl []],[],[],[],[],by simp[hS0],?_,?_,by simp,by simp,by simp⟩,Mod.refl _ _⟩⟩
    ·rw[g5];exact⟨[],[],rfl,rfl, .nil⟩
    ·rw[g4,Cr,AH,hm];have GP:FP Tryz.prog w' (Bc Tryz.prog t) [true] [.slice q 0 0] [.sl []] [] []:=by
      rw[g8];have:=FP.own (P:=Tryz.prog) (w:=w') (t:=t) (ts:=[]) (fl:=[true]) (us:=[]) (ys:=[]) rfl g9 (.inl ⟨g10,rfl⟩) (y:= .sl []) (u:= .slice q 0 0) (top:=[]) (by rw[g11];exact⟨[],rfl,by simp,p0, .inl ⟨rfl,⟨q,rfl⟩,rfl,rfl⟩⟩) .nil;simpa using this
     have:=D4.mu (P:=Tryz.prog) (w:=w') (t:=t) (ts:=[]) (ms:=[.mu [true]]) (own:=[true]) (v:= .slice q 0 0) (vs:=[]) (us:=[.slice q 0 0]) (ys:=[.sl []]) (y:= .sl []) (bs:=[]) (f:=[]) (o1:=[]) (o:=[]) rfl (by rw[g7];simp) GP .nil;simpa using this
   ·rw[List.length_map]at z1 z5;obtain⟨bs,b1,b2⟩:=jZ p3;have Bv:∀o,w.cell? ⟨g,o,none⟩=C[o]?:=YM z3;have BF:cs=xs.map encStr:=by
     rw[b1,<-b2,List.map_map];exact List.map_congr_left λb _=>(zNk b).symm
    have hH:Holds encStr w g 0 xs.toArray:=by
     intro j hj;have Kc:j<xs.length:=by simpa using hj
     refine⟨?_,iW z3⟩;rw[Bv,Nat.zero_add];have e1:C[j]?=cs[j]?:=by rw[z5,List.getElem?_take,if_pos (by omega)];simp
     rw[e1,BF,List.getElem?_map,AM Kc,getElem!_pos _ j hj];simp
    have hc:=hC g cap xs w hH (Dm z3) hb;rw[List.length_map];refine hc.mono ?_;rintro e w' ⟨rfl,n,os,rfl⟩;have E6:=zJw (q:=n) (os:=os) (d:=(Gq xs).toArray) z3;have Bg:=zMI (w:=w) (b:=g) (q:=n) (os:=os) (d:=(Gq xs).toArray);have B4:=zwk C (Gq xs) [] (by rw[G0,z4];simpa using z1);rw[AH,G0]at B4;change Mod [g] w (grow (putRow encStr (Sort.ahead w n) g 0 (xs.mergeSort λx y=>decide (x<=y)).toArray) os)at Bg;change (grow (putRow encStr (Sort.ahead w n) g 0 (xs.mergeSort λx y=>decide (x<=y)).toArray) os).heap[g]?=_ at E6;generalize grow (putRow encStr (Sort.ahead w n) g 0 (xs.mergeSort λx y=>decide (x<=y)).toArray) os=w' at Bg E6;have Bj:Df w' el 1 (.slice (some ⟨g,0,none⟩) xs.length cap) (.sl ((Gq xs).map CC)) [g] []:=by
     refine⟨_,rfl,λy hy=> ?_,by omega, .inr ⟨g,cap,_,by simp[G0],by rw[List.length_map,G0];omega,z2,E6,by simp[Go.Sort.putCells,z4],rfl,?_,?_⟩⟩
     ·obtain⟨x,_,rfl⟩:=List.mem_map.1 hy;rfl
     ·rw[List.length_map,G0,Nat.mul_one,B4];intro u hu;obtain⟨x,_,rfl⟩:=List.mem_map.1 hu;rfl
     ·rw[List.length_map,G0,Nat.mul_one,B4];exact sF _ λs hs=>zui p3 s (hp.mem_iff.1 hs)
    refine⟨_,rfl,⟨⟨.tup [],[.sl ((Gq xs).map CC)],[],[],[],[g],by simp,?_,?_,by simp,?_,by simp⟩,Bg.weaken λb hb=> .inl (by simpa using hb)⟩⟩
    ·rw[g5];exact⟨[],[],rfl,rfl, .nil⟩
    ·rw[g4,Cr,AH,hm];have GP:FP Tryz.prog w' (Bc Tryz.prog t) [true] [.slice (some ⟨g,0,none⟩) xs.length cap] [.sl ((Gq xs).map CC)] [] [g]:=by
      rw[g8];have:=FP.own (P:=Tryz.prog) (w:=w') (t:=t) (ts:=[]) (fl:=[true]) (us:=[]) (ys:=[]) rfl g9 (.inl ⟨g10,rfl⟩) (y:= .sl ((Gq xs).map CC)) (u:= .slice (some ⟨g,0,none⟩) xs.length cap) (top:=[g]) (by rw[g11];exact Bj) .nil;simpa using this
     have:=D4.mu (P:=Tryz.prog) (w:=w') (t:=t) (ts:=[]) (ms:=[.mu [true]]) (own:=[true]) (v:= .slice (some ⟨g,0,none⟩) xs.length cap) (vs:=[]) (us:=[.slice (some ⟨g,0,none⟩) xs.length cap]) (ys:=[.sl ((Gq xs).map CC)]) (y:= .sl ((Gq xs).map CC)) (bs:=[]) (f:=[]) (o1:=[g]) (o:=[]) rfl (by rw[g7];simp) GP .nil;simpa using this
    ·intro b hb;simp only[List.nil_append,List.mem_singleton]at hb;subst hb;exact⟨.inl (by simp),Dm E6⟩
 ·cases hk
noncomputable def R6(xs:List (List UInt8)):Option (Unit × List (List UInt8)):=Ax (xs.length<4611686018427387904) (some ((),Gq xs))
theorem zlN(a0:List (List UInt8))(r:Unit × List (List UInt8))(h:R6 a0=some r):Cp Tryz.prog BQ 36 [.sl (a0.map CC)] (.tup [.tup [], .sl (r.2.map CC)]):=by obtain⟨hb,h⟩:=F8 h;cases h;exact zJm (t:=26) (el:=9) (by kernel_rfl) (λblk cap zs w hH h1 h2=>Tryz.slices_Sort_string blk 0 cap zs w hH h1 h2) (λa cap w=>Tryz.slices_Sort_string_none a cap w) a0 hb
end Go.Proofs.YtlmjpjceiefpoaaGreat
end

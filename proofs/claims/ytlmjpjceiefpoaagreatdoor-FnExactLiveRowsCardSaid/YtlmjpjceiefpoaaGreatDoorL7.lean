/- Parts of a proof, joined: DA, DB, MA, MB, OB, OG, QA, QO, MC, MD, QT, TF, QL, HB, SP, HL, IA, IC, ID, IE, IF, IG, IB, CM, SS. -/
import Derived.Test.YtlmjpjceiefpoaaGreatDoorL6
import Derived.Test.YtlmjpjceiefpoaaGreatDoorProg
import Derived.Test.YtlmjpjceiefpoaaGreatDoorChecked
import Derived.Shelf.Strings.Builder1
import Derived.Shelf.Strings.Builder2
import Derived.Shelf.Strings.OnBuilder
import Derived.Shelf.Small.Bits
import Derived.Shelf.Small.Strs
import Derived.Shelf.Small.Wraps
import Derived.Shelf.Strings.BuilderF
import Derived.Shelf.Strings.BuilderK
import Derived.Shelf.Utf8.RuneCount
import Derived.Shelf.Strings.Builder2Cap
import Derived.Shelf.Strconv.Itoa0
import Derived.Shelf.Strings.Search1
import Derived.Shelf.Strings.Search2
import Derived.Shelf.Strings.Search3
import Derived.Shelf.Strings.Count
import Derived.Shelf.LaysM
import Derived.Shelf.Strings.Shaped
import Derived.Shelf.Sort.Plain
import Derived.Shelf.Strings.Prefix
import Derived.Shelf.Strings.Split
import Derived.Shelf.Strings.SplitShaped
import Derived.Shelf.Unicode.Decode
import Derived.Shelf.Strings.RuneCount
import Derived.Shelf.Strings.Explode
import Derived.Shelf.Unicode.DecodeSlow
import Derived.Shelf.Unicode.DecodeAny
import Derived.Shelf.Strings.BuilderCap
import Derived.Ground.Names2Prog
import Derived.Shelf.Slices.Clone
import Derived.Shelf.Slices.CompactS
import Derived.Shelf.Slices.SearchI
import Derived.Shelf.Slices.Cells
import Derived.Shelf.Slices.In.SortNone
import Derived.Ground.SlgnProg
import Derived.Shelf.SlicesE.Clone
import Derived.Laws.CopyRow
import Derived.Lib.AppendZerosOnto
import Derived.Lib.Overlaps
import Derived.Lib.SliceRun
import Derived.Lib.SlicesDelete
import Derived.Shelf.RegionOpenPlain
import Derived.Deep.RegionLaw
import Derived.Lib.RowBridge
set_option linter.unusedVariables false
set_option linter.unusedSimpArgs false
section
namespace Go.Proofs.YtlmjpjceiefpoaaGreatDoor
open Go.RowKit
noncomputable def flT(t:TypeId):List Bool:=(Bc Tryz.prog t).map λu=>match CH Tryz.prog u with|some e=>Ch Tryz.prog e|none=>false
noncomputable def zO2(u:TypeId):List Bool:=flT u
noncomputable def zQC(fn:Func):IM:={c8:=fn.params.toList.map λt=>match LM Tryz.prog t with|some u=> .bx (zO2 u) (zO2 u)|none=> .ro,res:=fn.resultTypes.toList.flatMap flT}
noncomputable def zPg(f:Nat):Option IM:=
 match f with
 |3=>some {c8:=[],res:=[false],dp:=true}
 |6=>some {c8:=[],res:=[false,true,false,true,true,false,false,true,true,true,true,true,true,true],dp:=true}
 |7=>some {c8:=[.ro, .ro],res:=[true,false],dp:=true}
 |10=>some {c8:=[.mu [false,true,false,true,true,false,false,true,true,true,true,true,true,true], .ro],res:=[],dp:=true}
 |11=>some {c8:=[.mu [true], .ro],res:=[],dp:=true}
 |21=>some {c8:=[],res:=[true],dp:=true}
 |23=>some {c8:=[],res:=[true],dp:=true}
 |24=>some {c8:=[],res:=[false,false,true,true,true,true,true,true,true],dp:=true}
 |29=>some {c8:=[.ro, .ro],res:=[true],dp:=true}
 |35=>some {c8:=[.mu [true], .ro],res:=[],dp:=true}
 |36=>some {c8:=[.mu [true], .ro],res:=[]}
 |37=>some {c8:=[.mu [true], .ro],res:=[],dp:=true}
 |38=>some {c8:=[.mu [false,false,true,true,true,true,true,true,true], .ro],res:=[],dp:=true}
 |39=>some {c8:=[.mu [true], .ro],res:=[]}
 |57=>some {c8:=[.ro, .ro],res:=[true],dp:=true}
 |59=>some {c8:=[.ro],res:=[]}
 |65=>some {c8:=[],res:=[true],dp:=true}
 |66=>some {c8:=[],res:=[true],dp:=true}
 |67=>some {c8:=[],res:=[true],dp:=true}
 |68=>some {c8:=[],res:=[true],dp:=true}
 |78=>some {c8:=[.va [true], .ro],res:=[true]}
 |80=>some {c8:=[.ro],res:=[]}
 |91=>some {c8:=[.mu [true], .ro],res:=[]}
 |92=>some {c8:=[.mu [true], .ro],res:=[]}
 |93=>some {c8:=[.mu [true], .ro],res:=[],dp:=true}
 |94=>some {c8:=[.mu [true], .ro],res:=[],dp:=true}
 |95=>some {c8:=[.mu [true], .ro],res:=[],dp:=true}
 |96=>some {c8:=[.mu [true], .ro],res:=[],dp:=true}
 |121=>some {c8:=[.ro, .ro],res:=[]}
 |126=>some {c8:=[],res:=[true,false,false],dp:=true}
 |154=>some {c8:=[.va [true], .ro, .va [true]],res:=[true]}
 |160=>some {c8:=[.ro],res:=[]}
 |164=>some {c8:=[.ro, .ro],res:=[]}
 |173=>some {c8:=[.mu [true], .ro],res:=[],dp:=true}
 |174=>some {c8:=[.mu [true], .ro],res:=[]}
 |175=>some {c8:=[.mu [true], .ro],res:=[]}
 |176=>some {c8:=[.mu [true], .ro],res:=[]}
 |201=>some {c8:=[.ro],res:=[]}
 |203=>some {c8:=[],res:=[true],dp:=true}
 |235=>some {c8:=[.ro, .ro, .bx [true] [true]],res:=[],ft:=[1000000111]}
 |247=>some {c8:=[.ro],res:=[]}
 |249=>some {c8:=[.ro, .ro, .ro, .ro],res:=[]}
 |256=>some {c8:=[.mu [true], .ro],res:=[],dp:=true}
 |272=>some {c8:=[.ro, .ro],res:=[]}
 |273=>some {c8:=[],res:=[false,true,false],dp:=true}
 |297=>some {c8:=[.ro, .ro],res:=[],dp:=true}
 |308=>some {c8:=[.mu [true], .ro],res:=[]}
 |312=>some {c8:=[.ro, .ro],res:=[]}
 |317=>some {c8:=[.ro, .ro, .ro],res:=[true,false],dp:=true,wn:=true}
 |321=>some {c8:=[],res:=[true],dp:=true}
 |330=>some {c8:=[.mu [true]],res:=[]}
 |331=>some {c8:=[.ro],res:=[false,true,true,true],dp:=true}
 |333=>some {c8:=[.ro, .ro],res:=[],dp:=true}
 |336=>some {c8:=[.va [true], .ro, .va [true]],res:=[true]}
 |348=>some {c8:=[.ro],res:=[true],dp:=true}
 |359=>some {c8:=[.ro],res:=[true],dp:=true}
 |365=>some {c8:=[.ro, .ro, .ro],res:=[true,false],dp:=true}
 |366=>some {c8:=[.va [true], .ro, .ro],res:=[true]}
 |367=>some {c8:=[.va [true], .ro, .va [true]],res:=[true]}
 |374=>some {c8:=[.ro],res:=[true]}
 |388=>some {c8:=[.ro, .ro],res:=[]}
 |395=>some {c8:=[.ro],res:=[]}
 |399=>some {c8:=[.va [true], .ro, .va [true]],res:=[true]}
 |403=>some {c8:=[.ro, .ro],res:=[false],lo:=[false,true]}
 |405=>some {c8:=[.mu [true]],res:=[]}
 |406=>some {c8:=[.va [true]],res:=[true]}
 |419=>some {c8:=[.mu [true], .ro, .ro, .ro],res:=[]}
 |421=>some {c8:=[.mu [true]],res:=[],lo:=[true]}
 |426=>some {c8:=[.mu [true]],res:=[]}
 |427=>some {c8:=[.mu [true], .ro, .ro],res:=[]}
 |428=>some {c8:=[.mu [true], .ro, .ro],res:=[]}
 |429=>some {c8:=[.mu [true], .ro, .ro],res:=[]}
 |430=>some {c8:=[.mu [true], .ro, .ro],res:=[]}
 |431=>some {c8:=[.mu [true], .ro, .ro],res:=[]}
 |432=>some {c8:=[.mu [true], .ro, .ro],res:=[]}
 |434=>some {c8:=[.mu [true], .ro, .ro, .ro],res:=[]}
 |435=>some {c8:=[.mu [true], .ro, .ro, .ro],res:=[]}
 |440=>some {c8:=[.mu [true], .ro, .ro, .ro],res:=[]}
 |443=>some {c8:=[.mu [true], .ro, .bx [false] [false]],res:=[]}
 |444=>some {c8:=[.mu [true], .ro, .ro, .ro, .bx [false] [false]],res:=[]}
 |445=>some {c8:=[.mu [true], .ro, .ro, .bx [false] [false]],res:=[]}
 |_=>none
noncomputable def zRa(f:Nat):Option IM:=match Tryz.prog.funcs[f]? with
 |some fn=>some ((zPg f).getD (zQC fn))
 |none=>none
noncomputable def BM:BY:={f:=zRa}
theorem zQd:Tryz.prog.follows .mixedOrders=true:=by kernel_rfl
theorem zRD:Tryz.prog.funcs.size<1000000:=by
 have:(decide (Tryz.prog.funcs.size<1000000))=true:=by kernel_rfl
 exact of_decide_eq_true this
theorem Ks(f:Nat)(s:IM)(h:BM f=some s):f<1000000:=by
 simp only[BM]at h;unfold zRa at h;split at h
 ·rename_i fn hf;have:=(Array.getElem?_eq_some_iff.1 hf).1;exact Nat.lt_trans this zRD
 ·cases h
def aA(P:Program)(sg:BY)(f:Nat)(xs:List AV)(r:AV):Bool:=
 match P.funcs[f]?,sg f with
 |some fn,some s=> !(fn.name== "runtime.NumGoroutine")&&Nv P fn s r&&xs.length==fn.params.size+fn.nfree
 |_,_=>false
abbrev Den(t:Tr)(r:AV)(xs:List AV):Prop:=t.den (Cj Tryz.prog BM) (λr'=>r'=r) (λ_ _ _ _=>False) [] xs
theorem D9{f:Nat}{t:Tr}{xs:List AV}{r:AV}(hc:WN Tryz.prog BM f=some t)(hk:aA Tryz.prog BM f xs r=true)(hd:Den t r xs):Cj Tryz.prog BM f xs r:=by
 unfold aA at hk;split at hk
 ·rename_i fn s hf hs;simp only[Ac,Bk,Ay]at hk;unfold Cj;rw[if_pos (Ks f s hs)];exact⟨s,hs,zLb zQd Ks hf hs hk.1.1 hc hk.1.2 hk.2 hd⟩
 ·cases hk
section
variable {Rt:Nat->List AV->AV->Prop} {R:AV->Prop} {L:LK} {js:List JK} {ρ:List AV}
theorem zLM{i:EL}{b k:Tr}(hL:LA L)(I:Nat->List AV->Prop){m:Nat}(h0:I m (i.den ρ))(GX:∀m vs,I m vs->b.den Rt R L ((λus=> ∃m',m'<m/\I m' us)::(λus=>k.den Rt R L js (ρ++us))::js) (ρ++vs)):(Tr.loop i b k).den Rt R L js ρ:=by
 have hb:∀W W':JK,(∀vs,W vs->W' vs)-> ∀vs,b.den Rt R L (W::(λus=>k.den Rt R L js (ρ++us))::js) (ρ++vs)->b.den Rt R L (W'::(λus=>k.den Rt R L js (ρ++us))::js) (ρ++vs):=
  λW W' hW vs hv=>b.iv hL hv (.cons hW (ED.refl _))
 have mono:∀n vs,Kw (λW vs=>b.den Rt R L (W::(λus=>k.den Rt R L js (ρ++us))::js) (ρ++vs)) n vs-> ∀n',n<=n'->Kw (λW vs=>b.den Rt R L (W::(λus=>k.den Rt R L js (ρ++us))::js) (ρ++vs)) n' vs:=by
  intro n
  induction n with
  |zero=>intro vs h;exact h.elim
  |succ n ih=>
   intro vs h n' hn;cases n' with
   |zero=>omega
   |succ n'=>exact hb _ _ (λus hu=>ih us hu n' (by omega)) vs h
 have key:∀m vs,I m vs->Kw (λW vs=>b.den Rt R L (W::(λus=>k.den Rt R L js (ρ++us))::js) (ρ++vs)) (m+1) vs:=by
  intro m
  induction m using Nat.strongRecOn with
  |_ m ih=>intro vs hI;exact hb _ _ (λus ⟨m',hm,hu⟩=>mono _ _ (ih m' hm us hu) m (by omega)) vs (GX m vs hI)
 exact⟨m+1,key m _ h0⟩
theorem zxP:LA (λ_ _ _ _=>False):=λ_ _ _ _ _ _ h=>h
end
@[simp] theorem zQ5(ρ:List AV):Bu ρ []↔True:=⟨λ_=>trivial,λ_=>Fw ρ⟩
@[simp] theorem zQJ(ρ:List AV)(x:E)(b:Bool)(gs:Gd):Bu ρ ((x,b)::gs)↔x.den ρ= .bool b/\Bu ρ gs:=
 ⟨λh=>⟨h (x,b) (by simp),λg hg=>h g (by simp[hg])⟩,λh g hg=>by rcases Ag.1 hg with rfl|hg;exact h.1;exact h.2 g hg⟩
attribute [simp] E.den EL.den Cn.den AV.fld AV.proj AV.deref AV.len AV.slen AV.idx AV.nth AV.ie AV.kr AV.conv AV.bin AV.bbin AV.sbin AV.app AV.fq AV.rep
@[simp] theorem zPu(cs:List AV):(AV.agg cs).cells=cs:=rfl
@[simp] theorem zP8(k:IntKind)(n:Int):(AV.int k n).cells=[.int k n]:=rfl
@[simp] theorem zOP(b:Bool):(AV.bool b).cells=[.bool b]:=rfl
@[simp] theorem zPz(s:List UInt8):(AV.str s).cells=[.str s]:=rfl
@[simp] theorem zQk(xs:List AV):(AV.sl xs).cells=[.sl xs]:=rfl
@[simp] theorem zOR(k:IntKind)(n:Int):(AV.int k n).scalar=true:=rfl
@[simp] theorem zOH(b:Bool):(AV.bool b).scalar=true:=rfl
@[simp] theorem zON(s:List UInt8):(AV.str s).scalar=true:=rfl
@[simp] theorem zQS(b c d:Bool):AV.cond (.bool b) (.bool c) (.bool d)= .bool (bif b then c else d):=by cases b<;>rfl
theorem zNf{y:AV}(h:y.scalar=true):y.cells=[y]:=by cases y<;>first|rfl|simp[AV.scalar]at h
theorem Cf{n:Int}(h1: -9223372036854775808<=n)(h2:n<=9223372036854775807):IntKind.i64.wrap n=n:=by rw[IntKind.wrap_i64];omega
end Go.Proofs.YtlmjpjceiefpoaaGreatDoor
end
section
namespace Go.Proofs.YtlmjpjceiefpoaaGreatDoor
open Go.RowKit
section
variable {Rt:Nat->List AV->AV->Prop} {R:AV->Prop} {L:LK} {js:List JK} {ρ:List AV}
theorem Ha{gs:Gd}{c:Cn}{k:Tr}(h:Bu ρ gs->c.den ρ)(hk:k.den Rt R L js ρ):(Tr.dn gs c k).den Rt R L js ρ:=⟨h,hk⟩
theorem zMj{gs:Gd}{f:Nat}{args:EL}{k:Tr}{r:AV}(h:Bu ρ gs->Rt f (args.den ρ) r)(hk:k.den Rt R L js (ρ++ [r])):(Tr.call gs (.inl f) args k).den Rt R L js ρ:=⟨r,h,hk⟩
theorem zDa{gs:Gd}{x:E}{args:EL}{k:Tr}{r:AV}(h:Bu ρ gs-> ∃g caps,x.den ρ= .fn g caps/\Rt (1000000+g) (args.den ρ++caps) r/\ ∀y∈r.cells,y.scalar=true)(hk:k.den Rt R L js (ρ++ [r])):(Tr.call gs (.inr x) args k).den Rt R L js ρ:=⟨r,h,hk⟩
theorem Ko{c:E}{a b:Tr}{t:Bool}(h:c.den ρ= .bool t)(ha:t=true->a.den Rt R L js ρ)(hb:t=false->b.den Rt R L js ρ):(Tr.ite c a b).den Rt R L js ρ:=⟨t,h,ha,hb⟩
theorem Nn{r:E}(h:R (r.den ρ)):(Tr.ret r).den Rt R L js ρ:=h
theorem zF1{es:EL}{j:JK}(h:j (es.den ρ)):(Tr.jmp 0 es).den Rt R L (j::js) ρ:=h
theorem zF5{es:EL}{i j:JK}(h:j (es.den ρ)):(Tr.jmp 1 es).den Rt R L (i::j::js) ρ:=h
end
def zH8(cn:Nat)(xs:List AV):Prop:= ∀x∈xs,∃cs,x= .agg cs/\cs.length=cn
theorem zH8.at{cn:Nat}{xs:List AV}(h:zH8 cn xs){q:Nat}(hq:q<xs.length):∃cs,xs[q]= .agg cs/\cs.length=cn:=h _ (Au hq)
section
variable {Rt:Nat->List AV->AV->Prop} {R:AV->Prop} {L:LK} {js:List JK} {ρ:List AV} {α β σ τ:Type}
theorem zO9{x:E}{sz:Nat}{xs:List α}(f:α->AV)(hx:x.den ρ= .sl (xs.map f))(hf:∀y,(f y).cells.length=sz):Cn.den ρ (.issl x sz):=⟨_,hx,by simp[hf]⟩
theorem zOv{x:E}{sz:Nat}{xs:List α}(f:α->AV)(hx:x.den ρ= .sl (xs.map f))(hf:∀y,(f y).cells.length=sz/\ ∀z∈(f y).cells,z.scalar=true):Cn.den ρ (.flatS x sz):=⟨_,hx,by simp only[List.mem_map];rintro _ ⟨y,_,rfl⟩;exact hf y⟩
end
@[simp] def Qi(n:Int):AV:= .int .i64 n
@[simp] def avB(b:Bool):AV:= .bool b
@[simp] def Cy(x:List UInt8):AV:= .str x
attribute [simp] Ei UG AV.sidx AV.aeq AV.leq AV.seq AV.sk AV.fm AV.bytes AV.text
end Go.Proofs.YtlmjpjceiefpoaaGreatDoor
end
section
namespace Go.Proofs.YtlmjpjceiefpoaaGreatDoor
open Go.RowKit
section
variable {P:Program} {w:World}
theorem Eb.km{ts:List TypeId}{vs:List Value}{xs:List AV}{rf lf hs:List Nat}(h:Eb P w ts [] [] vs xs rf lf hs):∀(ms:List PM) (lo:List Bool),(∀m∈ms,m= .ro)->Eb P w ts ms lo vs xs rf lf hs:=by
 generalize hm:([]:List PM)=m0 at h;generalize hn:([]:List Bool)=n0 at h
 induction h with
 |nil=>intro ms lo _;exact .nil
 |lent h1 _ _ _ _=>subst hn;cases h1
 | @cons t ts ms' lo' v vs x xs f h rf lf hs Bi _ ih=>
  subst hm;subst hn;intro ms lo E5;refine .cons ?_ (ih rfl rfl ms.tail lo.tail λm hm=>E5 m (List.mem_of_mem_tail hm));have:ms.headD .ro= .ro:=by cases ms with|nil=>rfl|cons m ms=>exact E5 m (by simp)
  rw[this];exact Bi
 |free h1 _ ih=>subst hm;subst hn;intro ms lo E5;exact .free h1 (ih rfl rfl ms.tail lo.tail λm hm=>E5 m (List.mem_of_mem_tail hm))
theorem DY.km{ts:List TypeId}{ms:List PM}{vs:List Value}{Bs:List AV}{f o:List Nat}(h:DY P w ts ms vs Bs f o)(E5:∀m∈ms,m= .ro):DY P w ts [] vs Bs f o:=by
 have hd:∀{ms:List PM},(∀m∈ms,m= .ro)->ms.headD .ro= .ro:=by intro ms h;cases ms with|nil=>rfl|cons m ms=>exact h m (by simp)
 induction h with
 |nil=>exact .nil
 |ro _ _ ih=>exact .ro rfl (ih λm hm=>E5 m (List.mem_of_mem_tail hm))
 |va h9 _ _=>rw[hd E5]at h9;cases h9
 |mu h9 _ _ _ _=>rw[hd E5]at h9;cases h9
 |bx h9 _ _ _ _ _ _ _ _=>rw[hd E5]at h9;cases h9
end
noncomputable def rW(f:Nat)(r:AV):Bool:=
 match Tryz.prog.funcs[f]?,BM f with
 |some fn,some s=>s.c8.all (λm=>match m with| .ro=>true|_=>false)&&s.ft.isEmpty&&(match fn.resultTypes.toList with| [t]=> !FL Tryz.prog t s.res|_=>false)&&Nv Tryz.prog fn {c8:=[],res:=[]} r
 |_,_=>false
theorem zHW{f:Nat}{xs:List AV}{r:AV}(h:Cj Tryz.prog BM f xs r)(hp:rW f r=true):Cj Tryz.prog BM (1000000+f) xs r:=by
 unfold rW at hp;split at hp
 ·rename_i fn s hf hs;simp only[Ac,Ba]at hp;obtain⟨⟨⟨h1,Cr⟩,h2⟩,h3⟩:=hp;have Cr:s.ft=[]:=by simpa using Cr
  have Ez:∀m∈s.c8,m= .ro:=λm hm=>by
   have:=h1 m hm;split at this
   ·rfl
   ·cases this
  unfold Cj at h ⊢;rw[if_pos (Ks f s hs)]at h;rw[if_neg (by omega),Nat.add_sub_cancel_left];obtain⟨s',A9,fn',Vj,hb,hn,_,hl,_,hc⟩:=h;rw[hs]at A9;cases A9;rw[hf]at Vj;cases Vj;rw[Cr]at hc;refine⟨fn,hf,hb,hn,h3,hl,by simp,λw vs rf lf A9 Aj hd hd2 Cb D5=>(hc w vs rf lf A9 (Aj.km _ _ Ez) hd hd2 Cb D5).mono ?_⟩;rintro e w' ⟨v,rfl,⟨R,Bs,f1,o1,f2,o2,e1,e2,e3,e4,e5,e6⟩,hm⟩;rw[Cr]at e3;refine⟨v,rfl,⟨R,Bs,f1,o1,f2,o2,e1,?_,e3.km Ez,e4,e5,e6⟩,hm⟩;unfold K9 at e2 ⊢;split at h2
  ·rename_i t ht;rw[ht]at e2 ⊢;simp only at e2 ⊢;unfold DI at e2 ⊢;have h2:FL Tryz.prog t s.res=false:=by simpa using h2
   rw[if_neg (by rw[h2];simp)]at e2;rw[if_neg (by simp[FL])];exact e2
  ·cases h2
 ·cases hp
section
variable {Rt:Nat->List AV->AV->Prop} {R:AV->Prop} {L:LK} {js:List JK} {ρ:List AV}
theorem zFL{i:EL}{b k:Tr}(hL:LA L)(n:Nat)(st:Nat->List AV)(J:Nat->Prop)(hJ:J 0)(h0:i.den ρ=st 0)(hb:∀q,q<=n->J q-> ∀W:JK,(q<n->J (q+1)->W (st (q+1)))->b.den Rt R L (W::(λus=>k.den Rt R L js (ρ++us))::js) (ρ++st q)):(Tr.loop i b k).den Rt R L js ρ:=by refine zLM hL (λm vs=> ∃q,q+m=n/\vs=st q/\J q) (m:=n) ⟨0,by omega,h0,hJ⟩ ?_;rintro m vs ⟨q,hq,rfl,hj⟩;exact hb q (by omega) hj _ λAP J8=>⟨m-1,by omega,q+1,by omega,rfl,J8⟩
end
def Ku(cn:Nat):Tr:=
 .dn [] (.dfd (.len (.var 0)))<|
 .loop (.cons (.int .i64 (0)) .nil) (
  .dn [] (.dfd (.bin .lss (.var 2) (.len (.var 0))))<|
  .ite (.bin .lss (.var 2) (.len (.var 0))) (
  .dn [] (.inb (.var 2) (.var 0) cn)<|
  .call [] (.inr (.var 1)) (.cons (.fld (.idx (.var 0) (.var 2)) 0 cn true) .nil)<|
  .ite (.var 3) (
   .ret (.var 2)) (
   .dn [] (.dfd (.bin .add (.var 2) (.int .i64 (1))))<|
   .jmp 0 (.cons (.bin .add (.var 2) (.int .i64 (1))) .nil))) (
  .jmp 1 .nil)) (
  .ret (.int .i64 (-1)))
def ZQ:Tr:=
 .dn [] (.dfd (.len (.var 0)))<|
 .loop (.cons (.int .i64 (0)) .nil) (
  .dn [] (.dfd (.bin .lss (.var 2) (.len (.var 0))))<|
  .ite (.bin .lss (.var 2) (.len (.var 0))) (
  .dn [] (.inb (.var 2) (.var 0) 1)<|
  .call [] (.inr (.var 1)) (.cons (.fld (.idx (.var 0) (.var 2)) 0 1 false) .nil)<|
  .ite (.var 3) (
   .ret (.var 2)) (
   .dn [] (.dfd (.bin .add (.var 2) (.int .i64 (1))))<|
   .jmp 0 (.cons (.bin .add (.var 2) (.int .i64 (1))) .nil))) (
  .jmp 1 .nil)) (
  .ret (.int .i64 (-1)))
def JG{α:Type}(p:α->Option Bool):List α->Int->Option Int
 | [],_=>some (-1)
 |x::xs,i=>(p x).bind λb=>if b=true then some i else JG p xs (i+1)
noncomputable def FI{α:Type}(xs:List α)(p:α->Option Bool):Option Int:=Ar (xs.length<=9223372036854775806) (JG p xs 0)
noncomputable def Dy{α:Type}(xs:List α)(p:α->Option Bool):Option Bool:=(FI xs p).bind λi=>some (decide (i>=0))
noncomputable def O9{α:Type}(bytes:Nat)(xs:List α):Option (List α):=Ar ((xs.length:Int)*bytes<=140737488355328/\(xs.length:Int)<=140737488355328) (some xs)
theorem zCj{α:Type}{p:α->Option Bool}{l:List α}{r:Int}{q:Nat}(hq:q<l.length)(h:JG p (l.drop q) q=some r):∃b,p l[q]=some b/\(b=true->r=q)/\(b=false->JG p (l.drop (q+1)) ((q+1:Nat):Int)=some r):=by
 rw[By hq]at h;obtain⟨b,hb,h⟩:=RG h;refine⟨b,hb,?_,?_⟩
 ·rintro rfl;simpa using h.symm
 ·rintro rfl;simpa using h
theorem L6{α:Type}{av:α->AV}{l:List α}{p:α->Option Bool}{cn g:Nat}{caps:List AV}{r:Int}(hs:∀x,∃cs,av x= .agg cs/\cs.length=cn)(h:FI l p=some r)(hf:∀x b,p x=some b->Cj Tryz.prog BM (1000000+g) (av x::caps) (.bool b)):Den (Ku cn) (.int .i64 r) [.sl (l.map av), .fn g caps]:=by
 obtain⟨hn,h⟩:=F4 h;unfold Den Ku;refine Ha (by simp) ?_;refine zFL zxP l.length (λq=> [.int .i64 q]) (λq=>JG p (l.drop q) q=some r) (by simpa using h) (by simp) λq hq hJ W hW=> ?_;by_cases AP:q<l.length
 ·obtain⟨cs,hc,hl⟩:=hs l[q];obtain⟨b,hb,CE,FC⟩:=zCj AP hJ;refine Ha (by simp[Ei]) (Ko (t:=true) (by simp[Ei,AP]) (λ_=> ?_) (by simp));refine Ha (λ_=>⟨.i64,q,l.length,by simp,by omega,by simp,by omega,by simp[AP,hc,hl]⟩) (zDa (r:= .bool b) (λ_=>⟨g,caps,by simp,?_,by simp⟩) ?_)
  ·have:=hf l[q] b hb;rw[hc]at this;simpa[AP,hc,<-hl]using this
  ·cases b with
   |true=>exact Ko (t:=true) (by simp) (λ_=>Nn (by simp[CE rfl])) (by simp)
   |false=>refine Ko (t:=false) (by simp) (by simp) λ_=>Ha (by simp[Ei]) (zF1 ?_);have:=hW AP (FC rfl);simpa[Ei,Cf (n:=(q:Int)+1) (by omega) (by omega)]using this
 ·have Ka:q=l.length:=by omega
  subst Ka;have hr:r= -1:=by simpa[JG]using hJ.symm
  refine Ha (by simp[Ei]) (Ko (t:=false) (by simp[Ei]) (by simp) λ_=>zF5 ?_);exact Nn (by simp[hr])
theorem zGa{α:Type}{av:α->AV}{l:List α}{p:α->Option Bool}{g:Nat}{caps:List AV}{r:Int}(hs:∀x,(av x).cells=[av x])(h:FI l p=some r)(hf:∀x b,p x=some b->Cj Tryz.prog BM (1000000+g) (av x::caps) (.bool b)):Den ZQ (.int .i64 r) [.sl (l.map av), .fn g caps]:=by
 obtain⟨hn,h⟩:=F4 h;unfold Den ZQ;refine Ha (by simp) ?_;refine zFL zxP l.length (λq=> [.int .i64 q]) (λq=>JG p (l.drop q) q=some r) (by simpa using h) (by simp) λq hq hJ W hW=> ?_;by_cases AP:q<l.length
 ·obtain⟨b,hb,CE,FC⟩:=zCj AP hJ;refine Ha (by simp[Ei]) (Ko (t:=true) (by simp[Ei,AP]) (λ_=> ?_) (by simp));refine Ha (λ_=>⟨.i64,q,l.length,by simp,by omega,by simp,by omega,by simp[AP,hs]⟩) (zDa (r:= .bool b) (λ_=>⟨g,caps,by simp,?_,by simp⟩) ?_)
  ·have:=hf l[q] b hb;simpa[AP,hs]using this
  ·cases b with
   |true=>exact Ko (t:=true) (by simp) (λ_=>Nn (by simp[CE rfl])) (by simp)
   |false=>refine Ko (t:=false) (by simp) (by simp) λ_=>Ha (by simp[Ei]) (zF1 ?_);have:=hW AP (FC rfl);simpa[Ei,Cf (n:=(q:Int)+1) (by omega) (by omega)]using this
 ·have Ka:q=l.length:=by omega
  subst Ka;have hr:r= -1:=by simpa[JG]using hJ.symm
  refine Ha (by simp[Ei]) (Ko (t:=false) (by simp[Ei]) (by simp) λ_=>zF5 ?_);exact Nn (by simp[hr])
def JY(f:Nat):Tr:=
 .call [] (.inl f) (.cons (.var 0) (.cons (.var 1) .nil))<|
 .dn [] (.dfd (.bin .geq (.var 2) (.int .i64 (0))))<|
 .ret (.bin .geq (.var 2) (.int .i64 (0)))
theorem Lk{α:Type}{l:List α}{p:α->Option Bool}{f:Nat}{x y:AV}{r:Bool}(h:Dy l p=some r)(hf:∀i,FI l p=some i->Cj Tryz.prog BM f [x,y] (.int .i64 i)):Den (JY f) (.bool r) [x,y]:=by obtain⟨i,hi,h⟩:=RG h;unfold Den JY;refine zMj (λ_=>by simpa using hf i hi) (Ha (by simp[Ei]) (Nn ?_));simp only[Af]at h;simp[Ei,<-h]
def UE(bytes sz:Nat):Tr:=
 .dn [] (.dfd (.len (.var 0)))<|
 .df [] (.var 0)<|
 .ite (.var 1) (
  .ret (.lst .nil)) (
  .dn [] (.room (.lst .nil) (.var 0) bytes)<|
  .dn [] (.flatS (.var 0) sz)<|
  .ret (.app (.lst .nil) (.var 0)))
def rF(bytes sz:Nat):Tr:=
 .dn [] (.dfd (.len (.var 0)))<|
 .df [] (.var 0)<|
 .ite (.var 1) (
  .ret (.lst .nil)) (
  .dn [] (.room (.lst .nil) (.var 0) bytes)<|
  .dn [] (.issl (.var 0) sz)<|
  .ret (.app (.lst .nil) (.var 0)))
theorem kQ{α:Type}{av:α->AV}{xs r:List α}{bytes sz:Nat}(hs:∀x,(av x).cells.length=sz/\ ∀z∈(av x).cells,z.scalar=true)(h:O9 bytes xs=some r):Den (UE bytes sz) (.sl (r.map av)) [.sl (xs.map av)]:=by
 obtain⟨hq,h⟩:=F4 h;cases h;unfold Den UE;refine Ha (by simp) λb hb=> ?_;cases b with
 |true=>have:=hb (by simp) rfl;exact Ko (t:=true) (by simp) (λ_=>Nn (by simpa using this.symm)) (by simp)
 |false=>exact Ko (t:=false) (by simp) (by simp) λ_=>Ha (λ_=>⟨0,xs.length,by simp,by simp,by simpa using hq.1,by simpa using hq.2⟩) (Ha (λ_=>zOv (xs:=xs) av (by simp) hs) (Nn (by simp)))
theorem zHe{α:Type}{av:α->AV}{xs r:List α}{bytes sz:Nat}(hs:∀x,(av x).cells.length=sz)(h:O9 bytes xs=some r):Den (rF bytes sz) (.sl (r.map av)) [.sl (xs.map av)]:=by
 obtain⟨hq,h⟩:=F4 h;cases h;unfold Den rF;refine Ha (by simp) λb hb=> ?_;cases b with
 |true=>have:=hb (by simp) rfl;exact Ko (t:=true) (by simp) (λ_=>Nn (by simpa using this.symm)) (by simp)
 |false=>exact Ko (t:=false) (by simp) (by simp) λ_=>Ha (λ_=>⟨0,xs.length,by simp,by simp,by simpa using hq.1,by simpa using hq.2⟩) (Ha (λ_=>zO9 (xs:=xs) av (by simp) hs) (Nn (by simp)))
end Go.Proofs.YtlmjpjceiefpoaaGreatDoor
end
section
namespace Go.Proofs.YtlmjpjceiefpoaaGreatDoor
open Go.ChangeShapes Go.WideShapes Go.ChangeAt Go.RowKit
theorem zKX{P:Program}{w:World}:Eb P w [] [] [] [] [] [] [] []:= .nil
theorem zDj{P:Program}{w:World}{t:TypeId}{ts:List TypeId}{v:Value}{vs:List Value}{x:AV}{xs:List AV}{f rf:List Nat}(h:Rd w [v] [x] f)(k:Eb P w ts [] [] vs xs rf [] []):Eb P w (t::ts) [] [] (v::vs) (x::xs) (f++rf) [] []:=
 Eb.cons (h:=[]) (hs:=[]) (ms:=[]) (lo:=[]) ⟨h,rfl⟩ k
theorem zMa{P:Program}{sg:BY}{f:Nat}{fn:Func}{t:TypeId}{xs:List AV}(h:Cj P sg f xs (.bool true))(hf:f<1000000){s:IM}(hs:sg f=some s)(Cr:s.ft=[])(Ez:∀m∈s.c8,m= .ro)(Ci:FL P t s.res=false)(GG:P.funcs[f]?=some fn)(hr:fn.resultTypes.toList=[t])
  {w:World} {vs:List Value} {rf:List Nat} (ha:Eb P w fn.params.toList [] [] vs xs rf [] []) (D5:MQ.n<=w.heap.size/\MQ.K w):
  Calls P f vs.toArray w λe w'=>e= .returned (.bool true)/\Below w.heap.size w w':=by
 unfold Cj at h;rw[if_pos hf]at h;obtain⟨s',A9,fn',KM,_,_,_,_,_,hc⟩:=h;rw[hs]at A9;obtain rfl:=Option.some.inj A9;rw[GG]at KM;obtain rfl:=Option.some.inj KM;refine(hc w vs rf [] [] (by rw[Cr,AG];exact ha.km _ _ Ez) (by simp) (by simp) (by simp) ⟨D5.1,D5.2,by simp⟩).mono λe w' ⟨v,he,hp⟩=> ?_;obtain⟨⟨R,bs,f1,o1,f2,o2,hR,A1,_⟩,hm⟩:=hp;have hRt:R= .bool true:=by
  cases bs with
  |nil=>exact hR.symm
  |cons=>cases hR
 subst hRt;rw[hr]at A1;have h2:DI P w' t s.res v (.bool true) f1 o1:=A1;unfold DI at h2;rw[Ci]at h2;obtain⟨h3,_⟩:=h2;have:v= .bool true:=by cases h3;rfl
 subst this;exact⟨he,hm.below⟩
section
variable {P:Program} {t:TypeId} {Q:List AV->Prop} {H:Type} {enc:TypeId × Value->H} {w:World} {spare:Nat->Bool} {held:Bool} {v:Value} {d:DataW H} {p:List MemPlace} {r:Reach} {base:Nat}
theorem zNB(hO:Ca P t Q)(hc:v.cells= #[v])(h:DataW.Trod enc P w 0 spare held t v d p):∃x f,Rd w [v] [x] f/\Q [x]:=by
 obtain⟨n,h⟩:=h;rw[hc]at h;obtain⟨_,_,xs,f,hr,hq⟩:=hO.2 _ _ _ _ _ _ _ _ h;have hl:=hr.len
 match xs,hl with
 | [x],_=>exact⟨x,f,hr,hq⟩
theorem zGF{fs:Array Field}(hO:Ca P t Q)(ht:P.underlying t=some (.struct fs))(hv:Value.okWide P w r base t v)(h:DataW.Trod enc P w 0 spare held t v d p):∃xs f,Rd w [v] [.agg xs] f/\Q xs:=by obtain⟨n,h⟩:=h;obtain⟨cs,rfl,_⟩:=okWide_struct ht hv;obtain⟨_,h1,xs,f,hr,hq⟩:=hO.2 _ _ _ _ _ _ _ _ h;refine⟨xs,f++ [],?_,hq⟩;have:=Rd.agg (w:=w) h1 hr .nil;simpa[Value.cells]using this
theorem zOs{k:IntKind}(hO:Ca P t Q)(ht:P.underlying t=some (.int k))(hv:Value.okWide P w r base t v)(h:DataW.Trod enc P w 0 spare held t v d p):∃x f,Rd w [v] [x] f/\Q [x]:=by obtain⟨n,rfl⟩:=okWide_int ht hv;exact zNB hO rfl h
end
theorem zPk{a b:Bool}(ha:a=true)(hb:b=true):(a&&b)=true:=by rw[ha,hb];rfl
def Dp(n:Int):Prop:= -9223372036854775808<=n/\n<=9223372036854775807
def okB(_:Bool):Prop:=True
def Gj(s:List UInt8):Prop:=s.length<=9223372036854775807
def B5{α:Type}(ok:α->Prop)(l:List α):Prop:=l.length<=9223372036854775807/\ ∀x∈l,ok x
theorem zQU{n:Int}(h:FM .i64 n):Dp n:=by unfold FM at h;rw[IntKind.wrap_i64]at h;unfold Dp;omega
section
variable {P:Program} {t e:TypeId} {α:Type} {ok:α->Prop} {av:α->AV}
theorem zQE(ht:P.underlying t=some (.int .i64))(hc:P.cellsOf t=1):Ca P t λxs=> ∃n,Dp n/\xs=[Qi n]:=
 (zNp ht hc).mono λ_ ⟨n,h,e⟩=>⟨n,zQU h,e⟩
theorem opB(ht:P.underlying t=some .bool)(hc:P.cellsOf t=1):Ca P t λxs=> ∃b,okB b/\xs=[avB b]:=
 (zKF ht hc).mono λ_ ⟨b,e⟩=>⟨b,trivial,e⟩
theorem zQL(ht:P.underlying t=some .string)(hc:P.cellsOf t=1):Ca P t λxs=> ∃s,Gj s/\xs=[Cy s]:=
 (zHd ht hc).mono λ_ ⟨s,h,e⟩=>⟨s,h,e⟩
theorem zGb:∀{ys:List AV},(∀y∈ys,J2 true (λxs=> ∃c,ok c/\ .agg xs=av c) y)-> ∃l:List α,(∀c∈l,ok c)/\ys=l.map av
 | [],_=>⟨[],by simp,rfl⟩
 |y::ys,h=>by obtain⟨l,hl,rfl⟩:=zGb λz hz=>h z (List.mem_cons_of_mem _ hz);have h0:=h y (List.mem_cons_self ..);simp only[J2,if_true]at h0;obtain⟨zs,rfl,c,hk,hc⟩:=h0;exact⟨c::l,by simpa using⟨hk,hl⟩,by simp[hc]⟩
theorem zFD:∀{ys:List AV},(∀y∈ys,J2 false (λxs=> ∃c,ok c/\xs=[av c]) y)-> ∃l:List α,(∀c∈l,ok c)/\ys=l.map av
 | [],_=>⟨[],by simp,rfl⟩
 |y::ys,h=>by obtain⟨l,hl,rfl⟩:=zFD λz hz=>h z (List.mem_cons_of_mem _ hz);have h0:=h y (List.mem_cons_self ..);simp only[J2,A7,if_false]at h0;obtain⟨_,c,hk,hc⟩:=h0;exact⟨c::l,by simpa using⟨hk,hl⟩,by simp at hc;simp[hc]⟩
theorem JW(ht:P.underlying t=some (.slice e))(hc:P.cellsOf t=1)(he:Ca P e λxs=> ∃c,ok c/\ .agg xs=av c):Ca P t λxs=> ∃l:List α,B5 ok l/\xs=[.sl (l.map av)]:=
 (zC8 true ht hc he (.inl rfl)).mono λ_ ⟨ys,hl,hy,e⟩=>by obtain⟨l,hk,rfl⟩:=zGb hy;exact⟨l,⟨by simpa using hl,hk⟩,e⟩
theorem sP(ht:P.underlying t=some (.slice e))(hc:P.cellsOf t=1)(NO:P.cellsOf e=1)(he:Ca P e λxs=> ∃c,ok c/\xs=[av c]):Ca P t λxs=> ∃l:List α,B5 ok l/\xs=[.sl (l.map av)]:=
 (zC8 false ht hc he (.inr NO)).mono λ_ ⟨ys,hl,hy,e⟩=>by obtain⟨l,hk,rfl⟩:=zFD hy;exact⟨l,⟨by simpa using hl,hk⟩,e⟩
end
end Go.Proofs.YtlmjpjceiefpoaaGreatDoor
end
section
namespace Go.Proofs.YtlmjpjceiefpoaaGreatDoor
open Go.RowKit
set_option maxRecDepth 100000
structure Ah where
 ab:List UInt8
 aw:List UInt8
 bm:Bool
@[simp] def Up(x:Ah):AV:= .agg [.str x.ab, .str x.aw, .bool x.bm]
structure AX where
 bd:Int
 ak:Int
 bu:Int
 bc:List (List UInt8)
 af:List Ah
@[simp] def zM9(x:AX):AV:= .agg [.int .i64 x.bd, .int .i64 x.ak, .int .i64 x.bu, .sl (x.bc.map Cy), .sl (x.af.map Up)]
structure Cp where
 bd:Int
 dj:Bool
 ak:Int
@[simp] def zM8(x:Cp):AV:= .agg [.int .i64 x.bd, .bool x.dj, .int .i64 x.ak]
structure CD where
 ak:Int
 aw:List UInt8
 bm:Bool
@[simp] def IK(x:CD):AV:= .agg [.int .i64 x.ak, .str x.aw, .bool x.bm]
structure Ap where
 ab:List UInt8
 au:List CD
@[simp] def Ej(x:Ap):AV:= .agg [.str x.ab, .sl (x.au.map IK)]
structure A5 where
 ae:List UInt8
 dk:Int
 bg:Int
@[simp] def Z5(x:A5):AV:= .agg [.str x.ae, .int .i64 x.dk, .int .i64 x.bg]
structure An where
 ae:List UInt8
 bf:List (List UInt8)
 aj:List A5
@[simp] def Zu(x:An):AV:= .agg [.str x.ae, .sl (x.bf.map Cy), .sl (x.aj.map Z5)]
structure A4 where
 ay:List (List UInt8)
@[simp] def zPq(x:A4):AV:= .agg [.sl (x.ay.map Cy)]
structure Cv where
 ah:Int
 cu:A4
 c9:A4
@[simp] def zFJ(x:Cv):AV:= .agg [.int .i64 x.ah, .sl (x.cu.ay.map Cy), .sl (x.c9.ay.map Cy)]
structure Db where
 ga:Int
 gy:Bool
 fAct:Cv
 fRow:A4
@[simp] def kL(x:Db):AV:= .agg [.int .i64 x.ga, .bool x.gy, .int .i64 x.fAct.ah, .sl (x.fAct.cu.ay.map Cy), .sl (x.fAct.c9.ay.map Cy), .sl (x.fRow.ay.map Cy)]
structure DB where
 gn:Int
@[simp] def YU(x:DB):AV:= .agg [.int .i64 x.gn]
structure BH where
 ah:Int
 bd:Int
 ak:Int
 bu:Int
 bc:List (List UInt8)
 af:List Ah
 dj:Bool
@[simp] def zO8(x:BH):AV:= .agg [.int .i64 x.ah, .int .i64 x.bd, .int .i64 x.ak, .int .i64 x.bu, .sl (x.bc.map Cy), .sl (x.af.map Up), .bool x.dj]
structure B8 where
 cd:Int
 fRec:BH
@[simp] def ZG(x:B8):AV:= .agg [.int .i64 x.cd, .int .i64 x.fRec.ah, .int .i64 x.fRec.bd, .int .i64 x.fRec.ak, .int .i64 x.fRec.bu, .sl (x.fRec.bc.map Cy), .sl (x.fRec.af.map Up), .bool x.fRec.dj]
structure Cu where
 ju:Bool
 cr:List B8
 cw:Int
@[simp] def kK(x:Cu):AV:= .agg [.bool x.ju, .sl (x.cr.map ZG), .int .i64 x.cw]
structure BZ where
 ar:List Cu
 cd:Int
 bu:Int
@[simp] def YJ(x:BZ):AV:= .agg [.sl (x.ar.map kK), .int .i64 x.cd, .int .i64 x.bu]
structure Bh where
 ab:List UInt8
 bd:Int
 ei:Bool
@[simp] def ZX(x:Bh):AV:= .agg [.str x.ab, .int .i64 x.bd, .bool x.ei]
structure AK where
 ah:Int
 ab:List UInt8
 aw:List UInt8
 ic:Int
@[simp] def aI(x:AK):AV:= .agg [.int .i64 x.ah, .str x.ab, .str x.aw, .int .i64 x.ic]
structure Cd where
 ab:List UInt8
 aw:List UInt8
 dz:Bool
@[simp] def Wn(x:Cd):AV:= .agg [.str x.ab, .str x.aw, .bool x.dz]
structure CU where
 ef:List AK
 cm:List Cd
 c6:List Int
 di:Int
 fw:Int
 dj:Bool
 ak:Int
 je:Bool
 ky:Bool
 gb:Bool
@[simp] def X8(x:CU):AV:= .agg [.sl (x.ef.map aI), .sl (x.cm.map Wn), .sl (x.c6.map Qi), .int .i64 x.di, .int .i64 x.fw, .bool x.dj, .int .i64 x.ak, .bool x.je, .bool x.ky, .bool x.gb]
structure Cw where
 ff:Int
 ch:List (List UInt8)
 cm:List Cd
 ak:Int
 di:Int
 fw:Int
@[simp] def XZ(x:Cw):AV:= .agg [.int .i64 x.ff, .sl (x.ch.map Cy), .sl (x.cm.map Wn), .int .i64 x.ak, .int .i64 x.di, .int .i64 x.fw]
@[simp] def rQ(x:List Bh):AV:= .sl (x.map ZX)
structure BG where
 gq:Int
 cy:Int
 bh:List DB
 br:List (List UInt8)
 az:List BZ
 cj:List (List Bh)
 bj:List Int
 cf:List CU
 cc:List Cw
@[simp] def zIR(x:BG):AV:= .agg [.int .i64 x.gq, .int .i64 x.cy, .sl (x.bh.map YU), .sl (x.br.map Cy), .sl (x.az.map YJ), .sl (x.cj.map rQ), .sl (x.bj.map Qi), .sl (x.cf.map X8), .sl (x.cc.map XZ)]
structure CW where
 ae:List UInt8
 cz:List An
 gi:Int
 bq:List Int
 cq:List Db
 aq:BG
@[simp] def rX(x:CW):AV:= .agg [.str x.ae, .sl (x.cz.map Zu), .int .i64 x.gi, .sl (x.bq.map Qi), .sl (x.cq.map kL), .int .i64 x.aq.gq, .int .i64 x.aq.cy, .sl (x.aq.bh.map YU), .sl (x.aq.br.map Cy), .sl (x.aq.az.map YJ), .sl (x.aq.cj.map rQ), .sl (x.aq.bj.map Qi), .sl (x.aq.cf.map X8), .sl (x.aq.cc.map XZ)]
structure AF where
 bw:Int
 ao:List Ap
 al:List AX
 bz:List Cp
@[simp] def zNG(x:AF):AV:= .agg [.int .i64 x.bw, .sl (x.ao.map Ej), .sl (x.al.map zM9), .sl (x.bz.map zM8)]
end Go.Proofs.YtlmjpjceiefpoaaGreatDoor
end
section
namespace Go.Proofs.YtlmjpjceiefpoaaGreatDoor
open Go.ChangeShapes Go.WideShapes Go.ChangeAt Go.RowKit
set_option maxRecDepth 100000
theorem K7:Ca Tryz.prog 9 λxs=> ∃s,Gj s/\xs=[Cy s]:=zQL Tryz.underlying9 (by kernel_rfl)
theorem V5:Ca Tryz.prog 26 λxs=> ∃l:List (List UInt8),B5 Gj l/\xs=[.sl (l.map Cy)]:=sP Tryz.underlying26 (by kernel_rfl) (by kernel_rfl) K7
theorem Ee:Ca Tryz.prog 3 λxs=> ∃n,Dp n/\xs=[Qi n]:=zQE Tryz.underlying3 (by kernel_rfl)
def Wy(x:A5):Prop:=Gj x.ae/\Dp x.dk/\Dp x.bg
theorem op6:Ca Tryz.prog 264 λxs=> ∃x:A5,Wy x/\ .agg xs=Z5 x:=
 (Gp Tryz.underlying264 (by decide+kernel) (by kernel_rfl) (.cons K7 (.cons Ee (.cons Ee .nil)))).mono λ_ ⟨_,_,e0,⟨x0,k0,h0⟩,_,_,e1,⟨x1,k1,h1⟩,_,_,e2,⟨x2,k2,h2⟩,hz⟩=>by subst h2 hz e2 h1 e1 h0 e0;exact⟨⟨x0,x1,x2⟩,⟨k0,k1,k2⟩,by simp⟩
theorem op5:Ca Tryz.prog 89 λxs=> ∃l:List A5,B5 Wy l/\xs=[.sl (l.map Z5)]:=JW Tryz.underlying89 (by kernel_rfl) op6
def YT(x:An):Prop:=Gj x.ae/\(B5 Gj) x.bf/\(B5 Wy) x.aj
theorem op3:Ca Tryz.prog 91 λxs=> ∃x:An,YT x/\ .agg xs=Zu x:=
 (Gp Tryz.underlying91 (by decide+kernel) (by kernel_rfl) (.cons K7 (.cons V5 (.cons op5 .nil)))).mono λ_ ⟨_,_,e0,⟨x0,k0,h0⟩,_,_,e1,⟨x1,k1,h1⟩,_,_,e2,⟨x2,k2,h2⟩,hz⟩=>by subst h2 hz e2 h1 e1 h0 e0;exact⟨⟨x0,x1,x2⟩,⟨k0,k1,k2⟩,by simp⟩
theorem op2:Ca Tryz.prog 22 λxs=> ∃l:List An,B5 YT l/\xs=[.sl (l.map Zu)]:=JW Tryz.underlying22 (by kernel_rfl) op3
theorem pC:Ca Tryz.prog 23 λxs=> ∃l:List Int,B5 Dp l/\xs=[.sl (l.map Qi)]:=sP Tryz.underlying23 (by kernel_rfl) (by kernel_rfl) Ee
theorem LN:Ca Tryz.prog 4 λxs=> ∃b,okB b/\xs=[avB b]:=opB Tryz.underlying4 (by kernel_rfl)
def Wr(x:A4):Prop:=(B5 Gj) x.ay
theorem tL:Ca Tryz.prog 93 λxs=> ∃x:A4,Wr x/\ .agg xs=zPq x:=
 (Gp Tryz.underlying93 (by decide+kernel) (by kernel_rfl) (.cons V5 .nil)).mono λ_ ⟨_,_,e0,⟨x0,k0,h0⟩,hz⟩=>by subst h0 hz e0;exact⟨⟨x0⟩,k0,by simp⟩
def pY(x:Cv):Prop:=Dp x.ah/\Wr x.cu/\Wr x.c9
theorem zRr:Ca Tryz.prog 95 λxs=> ∃x:Cv,pY x/\ .agg xs=zFJ x:=
 (Gp Tryz.underlying95 (by decide+kernel) (by kernel_rfl) (.cons Ee (.cons tL (.cons tL .nil)))).mono λ_ ⟨_,_,e0,⟨x0,k0,h0⟩,_,_,e1,⟨x1,k1,h1⟩,_,_,e2,⟨x2,k2,h2⟩,hz⟩=>by have g2:=AV.agg.inj h2;have g1:=AV.agg.inj h1;subst g2 hz e2 g1 e1 h0 e0;exact⟨⟨x0,x1,x2⟩,⟨k0,k1,k2⟩,by simp⟩
def Yj(x:Db):Prop:=Dp x.ga/\okB x.gy/\pY x.fAct/\Wr x.fRow
theorem zRv:Ca Tryz.prog 97 λxs=> ∃x:Db,Yj x/\ .agg xs=kL x:=
 (Gp Tryz.underlying97 (by decide+kernel) (by kernel_rfl) (.cons Ee (.cons LN (.cons zRr (.cons tL .nil))))).mono λ_ ⟨_,_,e0,⟨x0,k0,h0⟩,_,_,e1,⟨x1,k1,h1⟩,_,_,e2,⟨x2,k2,h2⟩,_,_,e3,⟨x3,k3,h3⟩,hz⟩=>by have g3:=AV.agg.inj h3;have g2:=AV.agg.inj h2;subst g3 hz e3 g2 e2 h1 e1 h0 e0;exact⟨⟨x0,x1,x2,x3⟩,⟨k0,k1,k2,k3⟩,by simp⟩
theorem op9:Ca Tryz.prog 24 λxs=> ∃l:List Db,B5 Yj l/\xs=[.sl (l.map kL)]:=JW Tryz.underlying24 (by kernel_rfl) zRv
def ZB(x:DB):Prop:=Dp x.gn
theorem zRj:Ca Tryz.prog 219 λxs=> ∃x:DB,ZB x/\ .agg xs=YU x:=
 (Gp Tryz.underlying219 (by decide+kernel) (by kernel_rfl) (.cons Ee .nil)).mono λ_ ⟨_,_,e0,⟨x0,k0,h0⟩,hz⟩=>by subst h0 hz e0;exact⟨⟨x0⟩,k0,by simp⟩
theorem zRk:Ca Tryz.prog 25 λxs=> ∃l:List DB,B5 ZB l/\xs=[.sl (l.map YU)]:=JW Tryz.underlying25 (by kernel_rfl) zRj
def YE(x:Ah):Prop:=Gj x.ab/\Gj x.aw/\okB x.bm
theorem zRA:Ca Tryz.prog 477 λxs=> ∃x:Ah,YE x/\ .agg xs=Up x:=
 (Gp Tryz.underlying477 (by decide+kernel) (by kernel_rfl) (.cons K7 (.cons K7 (.cons LN .nil)))).mono λ_ ⟨_,_,e0,⟨x0,k0,h0⟩,_,_,e1,⟨x1,k1,h1⟩,_,_,e2,⟨x2,k2,h2⟩,hz⟩=>by subst h2 hz e2 h1 e1 h0 e0;exact⟨⟨x0,x1,x2⟩,⟨k0,k1,k2⟩,by simp⟩
theorem zRu:Ca Tryz.prog 412 λxs=> ∃l:List Ah,B5 YE l/\xs=[.sl (l.map Up)]:=JW Tryz.underlying412 (by kernel_rfl) zRA
def sX(x:BH):Prop:=Dp x.ah/\Dp x.bd/\Dp x.ak/\Dp x.bu/\(B5 Gj) x.bc/\(B5 YE) x.af/\okB x.dj
theorem zRw:Ca Tryz.prog 414 λxs=> ∃x:BH,sX x/\ .agg xs=zO8 x:=
 (Gp Tryz.underlying414 (by decide+kernel) (by kernel_rfl) (.cons Ee (.cons Ee (.cons Ee (.cons Ee (.cons V5 (.cons zRu (.cons LN .nil)))))))).mono λ_ ⟨_,_,e0,⟨x0,k0,h0⟩,_,_,e1,⟨x1,k1,h1⟩,_,_,e2,⟨x2,k2,h2⟩,_,_,e3,⟨x3,k3,h3⟩,_,_,e4,⟨x4,k4,h4⟩,_,_,e5,⟨x5,k5,h5⟩,_,_,e6,⟨x6,k6,h6⟩,hz⟩=>by subst h6 hz e6 h5 e5 h4 e4 h3 e3 h2 e2 h1 e1 h0 e0;exact⟨⟨x0,x1,x2,x3,x4,x5,x6⟩,⟨k0,k1,k2,k3,k4,k5,k6⟩,by simp⟩
def YL(x:B8):Prop:=Dp x.cd/\sX x.fRec
theorem zRp:Ca Tryz.prog 416 λxs=> ∃x:B8,YL x/\ .agg xs=ZG x:=
 (Gp Tryz.underlying416 (by decide+kernel) (by kernel_rfl) (.cons Ee (.cons zRw .nil))).mono λ_ ⟨_,_,e0,⟨x0,k0,h0⟩,_,_,e1,⟨x1,k1,h1⟩,hz⟩=>by have g1:=AV.agg.inj h1;subst g1 hz e1 h0 e0;exact⟨⟨x0,x1⟩,⟨k0,k1⟩,by simp⟩
theorem zRB:Ca Tryz.prog 334 λxs=> ∃l:List B8,B5 YL l/\xs=[.sl (l.map ZG)]:=JW Tryz.underlying334 (by kernel_rfl) zRp
def Yl(x:Cu):Prop:=okB x.ju/\(B5 YL) x.cr/\Dp x.cw
theorem zRF:Ca Tryz.prog 336 λxs=> ∃x:Cu,Yl x/\ .agg xs=kK x:=
 (Gp Tryz.underlying336 (by decide+kernel) (by kernel_rfl) (.cons LN (.cons zRB (.cons Ee .nil)))).mono λ_ ⟨_,_,e0,⟨x0,k0,h0⟩,_,_,e1,⟨x1,k1,h1⟩,_,_,e2,⟨x2,k2,h2⟩,hz⟩=>by subst h2 hz e2 h1 e1 h0 e0;exact⟨⟨x0,x1,x2⟩,⟨k0,k1,k2⟩,by simp⟩
theorem zRy:Ca Tryz.prog 169 λxs=> ∃l:List Cu,B5 Yl l/\xs=[.sl (l.map kK)]:=JW Tryz.underlying169 (by kernel_rfl) zRF
def YR(x:BZ):Prop:=(B5 Yl) x.ar/\Dp x.cd/\Dp x.bu
theorem zRo:Ca Tryz.prog 171 λxs=> ∃x:BZ,YR x/\ .agg xs=YJ x:=
 (Gp Tryz.underlying171 (by decide+kernel) (by kernel_rfl) (.cons zRy (.cons Ee (.cons Ee .nil)))).mono λ_ ⟨_,_,e0,⟨x0,k0,h0⟩,_,_,e1,⟨x1,k1,h1⟩,_,_,e2,⟨x2,k2,h2⟩,hz⟩=>by subst h2 hz e2 h1 e1 h0 e0;exact⟨⟨x0,x1,x2⟩,⟨k0,k1,k2⟩,by simp⟩
theorem zRm:Ca Tryz.prog 27 λxs=> ∃l:List BZ,B5 YR l/\xs=[.sl (l.map YJ)]:=JW Tryz.underlying27 (by kernel_rfl) zRo
def Q9(x:Bh):Prop:=Gj x.ab/\Dp x.bd/\okB x.ei
theorem zRg:Ca Tryz.prog 268 λxs=> ∃x:Bh,Q9 x/\ .agg xs=ZX x:=
 (Gp Tryz.underlying268 (by decide+kernel) (by kernel_rfl) (.cons K7 (.cons Ee (.cons LN .nil)))).mono λ_ ⟨_,_,e0,⟨x0,k0,h0⟩,_,_,e1,⟨x1,k1,h1⟩,_,_,e2,⟨x2,k2,h2⟩,hz⟩=>by subst h2 hz e2 h1 e1 h0 e0;exact⟨⟨x0,x1,x2⟩,⟨k0,k1,k2⟩,by simp⟩
theorem zRz:Ca Tryz.prog 173 λxs=> ∃l:List Bh,B5 Q9 l/\xs=[.sl (l.map ZX)]:=JW Tryz.underlying173 (by kernel_rfl) zRg
theorem zRn:Ca Tryz.prog 28 λxs=> ∃l:List (List Bh),B5 (B5 Q9) l/\xs=[.sl (l.map rQ)]:=sP Tryz.underlying28 (by kernel_rfl) (by kernel_rfl) zRz
def WL(x:AK):Prop:=Dp x.ah/\Gj x.ab/\Gj x.aw/\Dp x.ic
theorem zRt:Ca Tryz.prog 338 λxs=> ∃x:AK,WL x/\ .agg xs=aI x:=
 (Gp Tryz.underlying338 (by decide+kernel) (by kernel_rfl) (.cons Ee (.cons K7 (.cons K7 (.cons Ee .nil))))).mono λ_ ⟨_,_,e0,⟨x0,k0,h0⟩,_,_,e1,⟨x1,k1,h1⟩,_,_,e2,⟨x2,k2,h2⟩,_,_,e3,⟨x3,k3,h3⟩,hz⟩=>by subst h3 hz e3 h2 e2 h1 e1 h0 e0;exact⟨⟨x0,x1,x2,x3⟩,⟨k0,k1,k2,k3⟩,by simp⟩
theorem zRl:Ca Tryz.prog 175 λxs=> ∃l:List AK,B5 WL l/\xs=[.sl (l.map aI)]:=JW Tryz.underlying175 (by kernel_rfl) zRt
def RE(x:Cd):Prop:=Gj x.ab/\Gj x.aw/\okB x.dz
theorem zRH:Ca Tryz.prog 340 λxs=> ∃x:Cd,RE x/\ .agg xs=Wn x:=
 (Gp Tryz.underlying340 (by decide+kernel) (by kernel_rfl) (.cons K7 (.cons K7 (.cons LN .nil)))).mono λ_ ⟨_,_,e0,⟨x0,k0,h0⟩,_,_,e1,⟨x1,k1,h1⟩,_,_,e2,⟨x2,k2,h2⟩,hz⟩=>by subst h2 hz e2 h1 e1 h0 e0;exact⟨⟨x0,x1,x2⟩,⟨k0,k1,k2⟩,by simp⟩
theorem zQ6:Ca Tryz.prog 176 λxs=> ∃l:List Cd,B5 RE l/\xs=[.sl (l.map Wn)]:=JW Tryz.underlying176 (by kernel_rfl) zRH
def X6(x:CU):Prop:=(B5 WL) x.ef/\(B5 RE) x.cm/\(B5 Dp) x.c6/\Dp x.di/\Dp x.fw/\okB x.dj/\Dp x.ak/\okB x.je/\okB x.ky/\okB x.gb
theorem zRC:Ca Tryz.prog 178 λxs=> ∃x:CU,X6 x/\ .agg xs=X8 x:=
 (Gp Tryz.underlying178 (by decide+kernel) (by kernel_rfl) (.cons zRl (.cons zQ6 (.cons pC (.cons Ee (.cons Ee (.cons LN (.cons Ee (.cons LN (.cons LN (.cons LN .nil))))))))))).mono λ_ ⟨_,_,e0,⟨x0,k0,h0⟩,_,_,e1,⟨x1,k1,h1⟩,_,_,e2,⟨x2,k2,h2⟩,_,_,e3,⟨x3,k3,h3⟩,_,_,e4,⟨x4,k4,h4⟩,_,_,e5,⟨x5,k5,h5⟩,_,_,e6,⟨x6,k6,h6⟩,_,_,e7,⟨x7,k7,h7⟩,_,_,e8,⟨x8,k8,h8⟩,_,_,e9,⟨x9,k9,h9⟩,hz⟩=>by subst h9 hz e9 h8 e8 h7 e7 h6 e6 h5 e5 h4 e4 h3 e3 h2 e2 h1 e1 h0 e0;exact⟨⟨x0,x1,x2,x3,x4,x5,x6,x7,x8,x9⟩,⟨k0,k1,k2,k3,k4,k5,k6,k7,k8,k9⟩,by simp⟩
theorem zRG:Ca Tryz.prog 29 λxs=> ∃l:List CU,B5 X6 l/\xs=[.sl (l.map X8)]:=JW Tryz.underlying29 (by kernel_rfl) zRC
def X0(x:Cw):Prop:=Dp x.ff/\(B5 Gj) x.ch/\(B5 RE) x.cm/\Dp x.ak/\Dp x.di/\Dp x.fw
theorem zRs:Ca Tryz.prog 181 λxs=> ∃x:Cw,X0 x/\ .agg xs=XZ x:=
 (Gp Tryz.underlying181 (by decide+kernel) (by kernel_rfl) (.cons Ee (.cons V5 (.cons zQ6 (.cons Ee (.cons Ee (.cons Ee .nil))))))).mono λ_ ⟨_,_,e0,⟨x0,k0,h0⟩,_,_,e1,⟨x1,k1,h1⟩,_,_,e2,⟨x2,k2,h2⟩,_,_,e3,⟨x3,k3,h3⟩,_,_,e4,⟨x4,k4,h4⟩,_,_,e5,⟨x5,k5,h5⟩,hz⟩=>by subst h5 hz e5 h4 e4 h3 e3 h2 e2 h1 e1 h0 e0;exact⟨⟨x0,x1,x2,x3,x4,x5⟩,⟨k0,k1,k2,k3,k4,k5⟩,by simp⟩
theorem zRE:Ca Tryz.prog 30 λxs=> ∃l:List Cw,B5 X0 l/\xs=[.sl (l.map XZ)]:=JW Tryz.underlying30 (by kernel_rfl) zRs
def qZ(x:BG):Prop:=Dp x.gq/\Dp x.cy/\(B5 ZB) x.bh/\(B5 Gj) x.br/\(B5 YR) x.az/\(B5 (B5 Q9)) x.cj/\(B5 Dp) x.bj/\(B5 X6) x.cf/\(B5 X0) x.cc
theorem zRi:Ca Tryz.prog 32 λxs=> ∃x:BG,qZ x/\ .agg xs=zIR x:=
 (Gp Tryz.underlying32 (by decide+kernel) (by kernel_rfl) (.cons Ee (.cons Ee (.cons zRk (.cons V5 (.cons zRm (.cons zRn (.cons pC (.cons zRG (.cons zRE .nil)))))))))).mono λ_ ⟨_,_,e0,⟨x0,k0,h0⟩,_,_,e1,⟨x1,k1,h1⟩,_,_,e2,⟨x2,k2,h2⟩,_,_,e3,⟨x3,k3,h3⟩,_,_,e4,⟨x4,k4,h4⟩,_,_,e5,⟨x5,k5,h5⟩,_,_,e6,⟨x6,k6,h6⟩,_,_,e7,⟨x7,k7,h7⟩,_,_,e8,⟨x8,k8,h8⟩,hz⟩=>by subst h8 hz e8 h7 e7 h6 e6 h5 e5 h4 e4 h3 e3 h2 e2 h1 e1 h0 e0;exact⟨⟨x0,x1,x2,x3,x4,x5,x6,x7,x8⟩,⟨k0,k1,k2,k3,k4,k5,k6,k7,k8⟩,by simp⟩
def rU(x:CW):Prop:=Gj x.ae/\(B5 YT) x.cz/\Dp x.gi/\(B5 Dp) x.bq/\(B5 Yj) x.cq/\qZ x.aq
theorem op0:Ca Tryz.prog 34 λxs=> ∃x:CW,rU x/\ .agg xs=rX x:=
 (Gp Tryz.underlying34 (by decide+kernel) (by kernel_rfl) (.cons K7 (.cons op2 (.cons Ee (.cons pC (.cons op9 (.cons zRi .nil))))))).mono λ_ ⟨_,_,e0,⟨x0,k0,h0⟩,_,_,e1,⟨x1,k1,h1⟩,_,_,e2,⟨x2,k2,h2⟩,_,_,e3,⟨x3,k3,h3⟩,_,_,e4,⟨x4,k4,h4⟩,_,_,e5,⟨x5,k5,h5⟩,hz⟩=>by have g5:=AV.agg.inj h5;subst g5 hz e5 h4 e4 h3 e3 h2 e2 h1 e1 h0 e0;exact⟨⟨x0,x1,x2,x3,x4,x5⟩,⟨k0,k1,k2,k3,k4,k5⟩,by simp⟩
end Go.Proofs.YtlmjpjceiefpoaaGreatDoor
end
section
namespace Go.Proofs.YtlmjpjceiefpoaaGreatDoor
open Go.RowKit
set_option maxRecDepth 100000
section
variable {Rt:Nat->List AV->AV->Prop} {R:AV->Prop} {L:LK} {js:List JK} {ρ:List AV}
end
abbrev RtS:Nat->List AV->AV->Prop:=Cj Tryz.prog BM
@[reducible] def RR:Nat->Type
 |0=>Ah
 |1=>AX
 |2=>Cp
 |3=>CD
 |4=>Ap
 |5=>A5
 |6=>An
 |7=>A4
 |8=>Cv
 |9=>Db
 |10=>DB
 |11=>BH
 |12=>B8
 |13=>Cu
 |14=>BZ
 |15=>Bh
 |16=>AK
 |17=>Cd
 |18=>CU
 |19=>Cw
 |20=>BG
 |21=>CW
 |22=>AF
 |_+23=>Unit
@[reducible] def aC:Nat->List Ty
 |0=> [.s, .s, .b]
 |1=> [.i .i64, .i .i64, .i .i64, .l .s, .l (.st 0)]
 |2=> [.i .i64, .b, .i .i64]
 |3=> [.i .i64, .s, .b]
 |4=> [.s, .l (.st 3)]
 |5=> [.s, .i .i64, .i .i64]
 |6=> [.s, .l .s, .l (.st 5)]
 |7=> [.l .s]
 |8=> [.i .i64, .l .s, .l .s]
 |9=> [.i .i64, .b, .i .i64, .l .s, .l .s, .l .s]
 |10=> [.i .i64]
 |11=> [.i .i64, .i .i64, .i .i64, .i .i64, .l .s, .l (.st 0), .b]
 |12=> [.i .i64, .i .i64, .i .i64, .i .i64, .i .i64, .l .s, .l (.st 0), .b]
 |13=> [.b, .l (.st 12), .i .i64]
 |14=> [.l (.st 13), .i .i64, .i .i64]
 |15=> [.s, .i .i64, .b]
 |16=> [.i .i64, .s, .s, .i .i64]
 |17=> [.s, .s, .b]
 |18=> [.l (.st 16), .l (.st 17), .l (.i .i64), .i .i64, .i .i64, .b, .i .i64, .b, .b, .b]
 |19=> [.i .i64, .l .s, .l (.st 17), .i .i64, .i .i64, .i .i64]
 |20=> [.i .i64, .i .i64, .l (.st 10), .l .s, .l (.st 14), .l (.l (.st 15)), .l (.i .i64), .l (.st 18), .l (.st 19)]
 |21=> [.s, .l (.st 6), .i .i64, .l (.i .i64), .l (.st 9), .i .i64, .i .i64, .l (.st 10), .l .s, .l (.st 14), .l (.l (.st 15)), .l (.i .i64), .l (.st 18), .l (.st 19)]
 |22=> [.i .i64, .l (.st 4), .l (.st 1), .l (.st 2)]
 |_+23=> []
def pF:∀n,RR n->AV
 |0,x=>Up x
 |1,x=>zM9 x
 |2,x=>zM8 x
 |3,x=>IK x
 |4,x=>Ej x
 |5,x=>Z5 x
 |6,x=>Zu x
 |7,x=>zPq x
 |8,x=>zFJ x
 |9,x=>kL x
 |10,x=>YU x
 |11,x=>zO8 x
 |12,x=>ZG x
 |13,x=>kK x
 |14,x=>YJ x
 |15,x=>ZX x
 |16,x=>aI x
 |17,x=>Wn x
 |18,x=>X8 x
 |19,x=>XZ x
 |20,x=>zIR x
 |21,x=>rX x
 |22,x=>zNG x
 |_+23,_=> .agg []
def tE:∀n,RR n->HL RR (aC n)
 |0,x=>(x.ab,x.aw,x.bm,())
 |1,x=>(x.bd,x.ak,x.bu,x.bc,x.af,())
 |2,x=>(x.bd,x.dj,x.ak,())
 |3,x=>(x.ak,x.aw,x.bm,())
 |4,x=>(x.ab,x.au,())
 |5,x=>(x.ae,x.dk,x.bg,())
 |6,x=>(x.ae,x.bf,x.aj,())
 |7,x=>(x.ay,())
 |8,x=>(x.ah,x.cu.ay,x.c9.ay,())
 |9,x=>(x.ga,x.gy,x.fAct.ah,x.fAct.cu.ay,x.fAct.c9.ay,x.fRow.ay,())
 |10,x=>(x.gn,())
 |11,x=>(x.ah,x.bd,x.ak,x.bu,x.bc,x.af,x.dj,())
 |12,x=>(x.cd,x.fRec.ah,x.fRec.bd,x.fRec.ak,x.fRec.bu,x.fRec.bc,x.fRec.af,x.fRec.dj,())
 |13,x=>(x.ju,x.cr,x.cw,())
 |14,x=>(x.ar,x.cd,x.bu,())
 |15,x=>(x.ab,x.bd,x.ei,())
 |16,x=>(x.ah,x.ab,x.aw,x.ic,())
 |17,x=>(x.ab,x.aw,x.dz,())
 |18,x=>(x.ef,x.cm,x.c6,x.di,x.fw,x.dj,x.ak,x.je,x.ky,x.gb,())
 |19,x=>(x.ff,x.ch,x.cm,x.ak,x.di,x.fw,())
 |20,x=>(x.gq,x.cy,x.bh,x.br,x.az,x.cj,x.bj,x.cf,x.cc,())
 |21,x=>(x.ae,x.cz,x.gi,x.bq,x.cq,x.aq.gq,x.aq.cy,x.aq.bh,x.aq.br,x.aq.az,x.aq.cj,x.aq.bj,x.aq.cf,x.aq.cc,())
 |22,x=>(x.bw,x.ao,x.al,x.bz,())
 |_+23,_=>()
def tMk:∀n,HL RR (aC n)->RR n
 |0,x=>⟨x.1,x.2.1,x.2.2.1⟩
 |1,x=>⟨x.1,x.2.1,x.2.2.1,x.2.2.2.1,x.2.2.2.2.1⟩
 |2,x=>⟨x.1,x.2.1,x.2.2.1⟩
 |3,x=>⟨x.1,x.2.1,x.2.2.1⟩
 |4,x=>⟨x.1,x.2.1⟩
 |5,x=>⟨x.1,x.2.1,x.2.2.1⟩
 |6,x=>⟨x.1,x.2.1,x.2.2.1⟩
 |7,x=>⟨x.1⟩
 |8,x=>⟨x.1,⟨x.2.1⟩,⟨x.2.2.1⟩⟩
 |9,x=>⟨x.1,x.2.1,⟨x.2.2.1,⟨x.2.2.2.1⟩,⟨x.2.2.2.2.1⟩⟩,⟨x.2.2.2.2.2.1⟩⟩
 |10,x=>⟨x.1⟩
 |11,x=>⟨x.1,x.2.1,x.2.2.1,x.2.2.2.1,x.2.2.2.2.1,x.2.2.2.2.2.1,x.2.2.2.2.2.2.1⟩
 |12,x=>⟨x.1,⟨x.2.1,x.2.2.1,x.2.2.2.1,x.2.2.2.2.1,x.2.2.2.2.2.1,x.2.2.2.2.2.2.1,x.2.2.2.2.2.2.2.1⟩⟩
 |13,x=>⟨x.1,x.2.1,x.2.2.1⟩
 |14,x=>⟨x.1,x.2.1,x.2.2.1⟩
 |15,x=>⟨x.1,x.2.1,x.2.2.1⟩
 |16,x=>⟨x.1,x.2.1,x.2.2.1,x.2.2.2.1⟩
 |17,x=>⟨x.1,x.2.1,x.2.2.1⟩
 |18,x=>⟨x.1,x.2.1,x.2.2.1,x.2.2.2.1,x.2.2.2.2.1,x.2.2.2.2.2.1,x.2.2.2.2.2.2.1,x.2.2.2.2.2.2.2.1,x.2.2.2.2.2.2.2.2.1,x.2.2.2.2.2.2.2.2.2.1⟩
 |19,x=>⟨x.1,x.2.1,x.2.2.1,x.2.2.2.1,x.2.2.2.2.1,x.2.2.2.2.2.1⟩
 |20,x=>⟨x.1,x.2.1,x.2.2.1,x.2.2.2.1,x.2.2.2.2.1,x.2.2.2.2.2.1,x.2.2.2.2.2.2.1,x.2.2.2.2.2.2.2.1,x.2.2.2.2.2.2.2.2.1⟩
 |21,x=>⟨x.1,x.2.1,x.2.2.1,x.2.2.2.1,x.2.2.2.2.1,⟨x.2.2.2.2.2.1,x.2.2.2.2.2.2.1,x.2.2.2.2.2.2.2.1,x.2.2.2.2.2.2.2.2.1,x.2.2.2.2.2.2.2.2.2.1,x.2.2.2.2.2.2.2.2.2.2.1,x.2.2.2.2.2.2.2.2.2.2.2.1,x.2.2.2.2.2.2.2.2.2.2.2.2.1,x.2.2.2.2.2.2.2.2.2.2.2.2.2.1⟩⟩
 |22,x=>⟨x.1,x.2.1,x.2.2.1,x.2.2.2.1⟩
 |_+23,_=>()
theorem zPG:∀n x,pF n x= .agg (I6 pF (aC n) (tE n x))
 |0,_=>rfl
 |1,_=>rfl
 |2,_=>rfl
 |3,_=>rfl
 |4,_=>rfl
 |5,_=>rfl
 |6,_=>rfl
 |7,_=>rfl
 |8,_=>rfl
 |9,_=>rfl
 |10,_=>rfl
 |11,_=>rfl
 |12,_=>rfl
 |13,_=>rfl
 |14,_=>rfl
 |15,_=>rfl
 |16,_=>rfl
 |17,_=>rfl
 |18,_=>rfl
 |19,_=>rfl
 |20,_=>rfl
 |21,_=>rfl
 |22,_=>rfl
 |_+23,_=>rfl
theorem zNr:∀n h,tE n (tMk n h)=h
 |0,_=>rfl
 |1,_=>rfl
 |2,_=>rfl
 |3,_=>rfl
 |4,_=>rfl
 |5,_=>rfl
 |6,_=>rfl
 |7,_=>rfl
 |8,_=>rfl
 |9,_=>rfl
 |10,_=>rfl
 |11,_=>rfl
 |12,_=>rfl
 |13,_=>rfl
 |14,_=>rfl
 |15,_=>rfl
 |16,_=>rfl
 |17,_=>rfl
 |18,_=>rfl
 |19,_=>rfl
 |20,_=>rfl
 |21,_=>rfl
 |22,_=>rfl
 |_+23,_=>rfl
@[reducible] def CT:J4:=⟨RtS,RR,pF,aC,tE,tMk,zPG,zNr⟩
abbrev FS:=FN CT
noncomputable def pG(tb:List FS)(hs:List JM)(o:Option Tr)(ps:List PT)(r:RT)(xs:HP CT.car ps)(hp:JI CT ps xs):Option (Jq CT.car r):=match o with
 |some t=>CX tb 100000 (Rx r) t hs (Zt ps xs hp) [] []
 |none=>none
theorem zQO{f:Nat}{ps:List PT}{r:RT}{φ:HP CT.car ps->Option (Jq CT.car r)}(tb:List FS)(hs:List JM)(h:∀xs hp,pG tb hs (WN Tryz.prog BM f) ps r xs hp=φ xs)(hk:∀xs y,aA Tryz.prog BM f (Gy CT ps xs) (G2 CT r y)=true)(xs:HP CT.car ps)(y:Jq CT.car r)(hp:JI CT ps xs)(e:φ xs=some y):CT.Rt f (Gy CT ps xs) (G2 CT r y):=by
 rw[<-h xs hp]at e;unfold pG at e;split at e
 ·rename_i t ht;refine D9 ht (hk xs y) ?_;unfold Den;rw[<-zJD ps xs hp];exact Fi tb 100000 (fa:=[]) (λ_ h=>nomatch h) (λ_ h=>nomatch h) (λv hv=>rA r hv) .nil e
 ·cases e
noncomputable def Ad(f:Nat)(ps:List PT)(r:RT)(φ:HP CT.car ps->Option (Jq CT.car r))(tb:List FS)(hs:List JM)(h:∀xs hp,pG tb hs (WN Tryz.prog BM f) ps r xs hp=φ xs:=by intro _ _;kernel_rfl)(hk:∀xs y,aA Tryz.prog BM f (Gy CT ps xs) (G2 CT r y)=true:=by intro _ _;kernel_rfl):FS:=
 ⟨f,ps,r,φ,λxs y hp e=>zQO tb hs h hk xs y hp e,false,λh=>by cases h⟩
noncomputable def Gm(d:FS)(h:∀y,rW d.f (G2 CT d.r y)=true):FS:=
 ⟨d.f,d.ps,d.r,d.φ,d.ok,true,λ_ xs y hx e=>zHW (d.ok xs y hx e) (h y)⟩
noncomputable def CS(f:Nat)(ps:List PT)(r:RT)(φ:HP CT.car ps->Option (Jq CT.car r))(ok:∀xs y,JI CT ps xs->φ xs=some y->CT.Rt f (Gy CT ps xs) (G2 CT r y)):FS:=⟨f,ps,r,φ,ok,false,λh=>by cases h⟩
abbrev RM(s k:Int):Prop:=s*k<=140737488355328/\s<=140737488355328
noncomputable def WK{α:Type}(f:α->Option α)(a0:List α)(v1:Int)(v2:List α):Option ((Int × List α) ⊕ Option (List α)):=
 if(decide (v1<(a0.length:Int)))then
  (Ak a0 v1).bind λy3=>
  (f y3).bind λv4=>
  (Ak v2 v1).bind λ_=>
  some (.inl ((IntKind.i64.wrap (v1+1)),(v2.set (v1).toNat v4)))
 else
  some (.inr (some v2))
noncomputable def toL{α:Type}(f:α->Option α)(d:α)(b:Int)(a0:List α):Option (List α):=
 Ar (0<=(a0.length:Int)/\(a0.length:Int)*b<=140737488355328/\(a0.length:Int)<=140737488355328)<|
 Ao (λs:Int × List α=>WK f a0 s.1 s.2) (0,(List.replicate ((a0.length:Int)).toNat d))
noncomputable def WQ{α:Type}(f:α->α->Option Bool)(a0 a1:List α)(v1:Int):Option ((Int) ⊕ Option (Bool)):=
 if(decide (v1<(a0.length:Int)))then
  (Ak a0 v1).bind λy2=>
  (Ak a1 v1).bind λy3=>
  (f y2 y3).bind λv4=>
  if(!v4)then
   some (.inr (some false))
  else
   some (.inl (IntKind.i64.wrap (v1+1)))
 else
  some (.inr (some true))
noncomputable def GA{α:Type}(f:α->α->Option Bool)(a0 a1:List α):Option Bool:=
 if((a0.length:Int) !=(a1.length:Int))then
  some false
 else
  Ao (λs:Int=>WQ f a0 a1 s) 0
noncomputable def RO{α:Type}(f:α->Int->Option Int)(a0:List α)(v1 v2:Int):Option ((Int × Int) ⊕ Option (Int)):=
 if(decide (v2<(a0.length:Int)))then
  (Ak a0 v2).bind λy3=>
  (f y3 v1).bind λv4=>
  if(decide (v4<0))then
   some (.inr (some (-1)))
  else
   some (.inl (v4,(IntKind.i64.wrap (v2+1))))
 else
  some (.inr (some v1))
noncomputable def Iu{α:Type}(f:α->Int->Option Int)(a0:List α)(a1:Int):Option (Int):=
 if(decide ((IntKind.i64.wrap (a1-(a0.length:Int)))<0))then
  some (-1)
 else
  Ao (λs:Int × Int=>RO f a0 s.1 s.2) ((IntKind.i64.wrap (a1-(a0.length:Int))),0)
end Go.Proofs.YtlmjpjceiefpoaaGreatDoor
end
section
namespace Go.Proofs.YtlmjpjceiefpoaaGreatDoor
open Go.RowKit
theorem Eb.rd{P:Program}{w:World}{ts:List TypeId}{ms:List PM}{lo:List Bool}{vs:List Value}{xs:List AV}{rf lf hs:List Nat}(h:Eb P w ts ms lo vs xs rf lf hs):lo=[]->(∀m∈ms,m= .ro)->Rd w vs xs rf/\hs=[]:=by
 induction h with
 |nil=>intro _ _;exact⟨.nil,rfl⟩
 |lent h1 _ _ _ _=>intro B7;subst B7;cases h1
 | @cons t ts ms lo v vs x xs f h rf lf hs Bi _ ih=>
  intro B7 E5;subst B7;obtain⟨h1,rfl⟩:=ih rfl λm hm=>E5 m (List.mem_of_mem_tail hm);have Ez:ms.headD .ro= .ro:=by
   cases ms with
   |nil=>rfl
   |cons m ms=>exact E5 m (by simp)
  rw[Ez]at Bi;obtain⟨h2,h3⟩:Rd w [v] [x] f/\h=[]:=Bi;subst h3;exact⟨by simpa using h2.app h1,rfl⟩
 |free h1 _ ih=>intro B7 E5;subst B7;obtain⟨h2,rfl⟩:=ih rfl λm hm=>E5 m (List.mem_of_mem_tail hm);exact⟨by simpa using h1.app h2,rfl⟩
theorem DY.j8{P:Program}{w:World}:∀{ts:List TypeId} {ms:List PM} {vs:List Value},vs.length=ts.length->(∀m∈ms,m= .ro)->DY P w ts ms vs [] [] []
 | [],_,vs,_,_=> .nil
 |t::ts,ms,[],h,_=>by simp at h
 |t::ts,ms,v::vs,h,E5=>by
  refine .ro ?_ (DY.j8 (by simpa using h) λm hm=>E5 m (List.mem_of_mem_tail hm));cases ms with
  |nil=>rfl
  |cons m ms=>exact E5 m (by simp)
def tI(P:Program)(sg:BY)(f np:Nat)(r:AV):Bool:=
 match P.funcs[f]?,sg f with
 |some fn,some s=>fn.body.isSome&& !(fn.name== "runtime.NumGoroutine")&&Nv P fn s r&&s.c8.all (λm=>match m with| .ro=>true|_=>false)&&fn.params.size==np&&fn.nfree==0&&(s.ft.isEmpty&&s.lo.isEmpty)&&(match fn.resultTypes.toList with| [t]=> !FL P t s.res|_=>false)
 |_,_=>false
theorem zL1{f:Nat}{xs:List AV}{r:AV}(hk:tI Tryz.prog BM f xs.length r=true)(hc:∀(w:World) (vs:List Value) (rf:List Nat),MQ.K w->Rd w vs xs rf->Calls Tryz.prog f vs.toArray w λe w'=>Mod [] w w'/\ ∃v f1,e= .returned v/\Rd w' [v] [r] f1/\ ∀b∈f1,b∈rf\/w.heap.size<=b):Cj Tryz.prog BM f xs r:=by
 unfold tI at hk;split at hk
 ·rename_i fn s hf hs;simp only[Ac,Bk,Ay,Ba]at hk;obtain⟨⟨⟨⟨⟨⟨⟨h1,h2⟩,h3⟩,h4⟩,h5⟩,h6⟩,Cr⟩,h7⟩:=hk;obtain⟨Cr,B7⟩:s.ft=[]/\s.lo=[]:=by simpa using Cr
  have Ez:∀m∈s.c8,m= .ro:=λm hm=>by
   have:=h4 m hm;split at this
   ·rfl
   ·cases this
  unfold Cj;rw[if_pos (Ks f s hs)];refine⟨s,hs,fn,hf,h1,h2,h3,by omega,by simp[Cr],λw vs rf lf A9 Aj hd _ Cb D5=> ?_⟩;obtain⟨hr,rfl⟩:=Aj.rd B7 Ez;refine(hc w vs rf D5.2.1 hr).mono ?_;rintro e w' ⟨hm,v,f1,rfl,hv,hb⟩;refine⟨v,rfl,⟨⟨r,[],f1,[],[],[],rfl,?_,DY.j8 ?_ Ez,by simp,by simp,λb Cc=>⟨by simp,?_⟩⟩,hm⟩⟩
  ·unfold K9;split at h7
   ·rename_i t ht;rw[ht];show DI Tryz.prog w' t s.res v r f1 [];unfold DI;rw[if_neg (by rw[Bool.not_eq_true];simpa using h7)];exact⟨hv,rfl⟩
   ·cases h7
  ·rw[hr.len];simp[Cr];omega
  ·rcases hb b (by simpa using Cc)with h|h
   ·exact .inl h
   ·exact .inr (.inr h)
 ·cases hk
theorem Zw{f:Nat}{xs:List AV}{r:AV}(hk:tI Tryz.prog BM f xs.length r=true)(hc:∀(w:World) (vs:List Value) (rf:List Nat),Rd w vs xs rf->Calls Tryz.prog f vs.toArray w λe w'=>Mod [] w w'/\ ∃v f1,e= .returned v/\Rd w' [v] [r] f1/\ ∀b∈f1,b∈rf\/w.heap.size<=b):Cj Tryz.prog BM f xs r:=
 zL1 hk λw vs rf _ hr=>hc w vs rf hr
theorem Lp{w:World}{s:List UInt8}{vs:List Value}{xs:List AV}{f:List Nat}(h:Rd w vs (.str s::xs) f):∃(b:ByteArray) (us:List Value),vs= .string b::us/\b.data.toList=s/\b.size<=9223372036854775807/\Rd w us xs f:=by
 cases h with
 |str a h=>exact⟨_,_,rfl,rfl,a,h⟩
theorem Pd{w:World}{k:IntKind}{n:Int}{vs:List Value}{xs:List AV}{f:List Nat}(h:Rd w vs (.int k n::xs) f):∃us:List Value,vs= .int k n::us/\FM k n/\Rd w us xs f:=by
 cases h with
 |int a h=>exact⟨_,rfl,a,h⟩
theorem Kn{w:World}{vs:List Value}{f:List Nat}(h:Rd w vs [] f):vs=[]/\f=[]:=by cases h;exact⟨rfl,rfl⟩
end Go.Proofs.YtlmjpjceiefpoaaGreatDoor
end
section
namespace Go.Proofs
open Go.Shelf
def Tryz.ib:Go.Shelf.Ren:=⟨λ|156=>250|165=>302|166=>303|169=>304|240=>342|241=>343|276=>382|277=>383|n=>n,λ|31=>26|9=>9|3=>3|4=>4|0=>0|20=>20|72=>369|76=>373|70=>367|37=>258|75=>372|127=>409|164=>441|5=>5|80=>375|n=>n,λ|n=>n⟩
theorem Tryz.kj:Go.Proofs.Lays.n156 Tryz.prog Tryz.ib:={
 mixed:=by kernel_rfl
 f156:=Tryz.func250.trans (congrArg some (by kernel_rfl))
 f165:=Tryz.func302.trans (congrArg some (by kernel_rfl))
 f166:=Tryz.func303.trans (congrArg some (by kernel_rfl))
 f169:=Tryz.func304.trans (congrArg some (by kernel_rfl))
 f240:=Tryz.func342.trans (congrArg some (by kernel_rfl))
 f241:=Tryz.func343.trans (congrArg some (by kernel_rfl))
 f276:=Tryz.func382.trans (congrArg some (by kernel_rfl))
 f277:=Tryz.func383.trans (congrArg some (by kernel_rfl))
 t0:=Tryz.underlying0
 a0:=Tryz.isAgg0
 z0:=Tryz.sizeOf0
 v0:=Tryz.zeroValue0
 t3:=Tryz.underlying3
 a3:=Tryz.isAgg3
 z3:=Tryz.sizeOf3
 v3:=Tryz.zeroValue3
 t4:=Tryz.underlying4
 a4:=Tryz.isAgg4
 z4:=Tryz.sizeOf4
 v4:=Tryz.zeroValue4
 t9:=Tryz.underlying9
 a9:=Tryz.isAgg9
 z9:=Tryz.sizeOf9
 v9:=Tryz.zeroValue9
 t20:=Tryz.underlying20
 a20:=Tryz.isAgg20
 z20:=Tryz.sizeOf20
 v20:=Tryz.zeroValue20
 t31:=Tryz.underlying26
 a31:=Tryz.isAgg26
 z31:=Tryz.sizeOf26
 v31:=Tryz.zeroValue26
 t37:=Tryz.underlying258
 a37:=Tryz.isAgg258
 z37:=Tryz.sizeOf258
 v37:=Tryz.zeroValue258
 t70:=Tryz.underlying367
 a70:=Tryz.isAgg367
 z70:=Tryz.sizeOf367
 v70:=Tryz.zeroValue367
 t72:=Tryz.underlying369
 a72:=Tryz.isAgg369
 z72:=Tryz.sizeOf369
 v72:=Tryz.zeroValue369
 t75:=Tryz.underlying372
 a75:=Tryz.isAgg372
 z75:=Tryz.sizeOf372
 v75:=Tryz.zeroValue372
 t76:=Tryz.underlying373
 a76:=Tryz.isAgg373
 z76:=Tryz.sizeOf373
 v76:=Tryz.zeroValue373
 t127:=Tryz.underlying409
 a127:=Tryz.isAgg409
 z127:=Tryz.sizeOf409
 v127:=Tryz.zeroValue409
 t164:=Tryz.underlying441
 a164:=Tryz.isAgg441
 z164:=Tryz.sizeOf441
 v164:=Tryz.zeroValue441}
theorem Tryz.fg:Builder.Extra Tryz.prog Tryz.ib:={
 sizeBuilder:=by kernel_rfl
 liesBuilder:=by kernel_rfl
 t5:=Tryz.underlying5
 a5:=Tryz.isAgg5
 z5:=Tryz.sizeOf5
 v5:=Tryz.zeroValue5
 infoByte:=by kernel_rfl
 cellsByte:=by kernel_rfl
 sizeByte:=by kernel_rfl
 neB5:=by decide}
open Go.RowKit in
theorem Tryz.strings_Join_none(a:Option Addr)(c:Nat)(sep:ByteArray)(w:World):
  Calls Tryz.prog 250 #[.slice a 0 c, .string sep] w λe w'=>e= .returned (.string ⟨#[]⟩)/\w'=w:=Any.strings_Join_none Tryz.kj Tryz.fg a c sep w
open Go.RowKit in
theorem Tryz.strings_Join(bk o c:Nat)(xs:List ByteArray)(sep:ByteArray)(w:World)(Pu:∀(j:Nat) x,xs[j]?=some x->w.cell? ⟨bk,o+j,none⟩=some (.string x))(J5:bk<w.heap.size)(hN:xs.length<=140737488355328)(FE:xs.length<=c)(hlen:(Lib.join (xs.map (·.data.toList)) sep.data.toList).length<=140737488355328):
  Calls Tryz.prog 250 #[.slice (some ⟨bk,o,none⟩) xs.length c, .string sep] w λe w'=>e= .returned (.string ⟨(Lib.join (xs.map (·.data.toList)) sep.data.toList).toArray⟩)/\Below w.heap.size w w':=Any.strings_Join Tryz.kj Tryz.fg bk o c xs sep w Pu J5 hN FE hlen
def Tryz.my:Go.Shelf.Ren:=⟨λ|137=>329|217=>358|266=>392|n=>n,λ|9=>9|5=>5|3=>3|n=>n,λ|n=>n⟩
def Tryz.jf:Go.Shelf.Ren:=⟨λ|217=>358|266=>392|n=>n,λ|9=>9|5=>5|3=>3|n=>n,λ|n=>n⟩
theorem Tryz.mg:Go.Proofs.Lays.n217 Tryz.prog Tryz.jf:={
 mixed:=by kernel_rfl
 f217:=Tryz.func358.trans (congrArg some (by kernel_rfl))
 f266:=Tryz.func392.trans (congrArg some (by kernel_rfl))
 t3:=Tryz.underlying3
 a3:=Tryz.isAgg3
 z3:=Tryz.sizeOf3
 v3:=Tryz.zeroValue3
 t5:=Tryz.underlying5
 a5:=Tryz.isAgg5
 z5:=Tryz.sizeOf5
 v5:=Tryz.zeroValue5
 t9:=Tryz.underlying9
 a9:=Tryz.isAgg9
 z9:=Tryz.sizeOf9
 v9:=Tryz.zeroValue9}
open Go.RowKit Go.Lib in
theorem Tryz.stringslite_IndexByte(s:ByteArray)(c:Int)(w:World):
  Calls Tryz.prog 358 #[.string s, .int .u8 c] w λe w'=>e= .returned (.int .i64 (Lib.indexByte s.data.toList c.toNat.toUInt8))/\w'=w:=Any.stringslite_IndexByte Tryz.mg s c w
def Tryz.ji:Go.Shelf.Ren:=⟨λ|219=>341|217=>358|225=>379|224=>380|267=>381|266=>392|314=>408|n=>n,λ|9=>9|3=>3|4=>4|5=>5|46=>364|146=>464|51=>463|n=>n,λ|1=>0|n=>n⟩
theorem Tryz.mc:Go.Proofs.Lays.n219 Tryz.prog Tryz.ji:={
 mixed:=by kernel_rfl
 f217:=Tryz.func358.trans (congrArg some (by kernel_rfl))
 f219:=Tryz.func341.trans (congrArg some (by kernel_rfl))
 f224:=Tryz.func380.trans (congrArg some (by kernel_rfl))
 f225:=Tryz.func379.trans (congrArg some (by kernel_rfl))
 f266:=Tryz.func392.trans (congrArg some (by kernel_rfl))
 f267:=Tryz.func381.trans (congrArg some (by kernel_rfl))
 f314:=Tryz.func408.trans (congrArg some (by kernel_rfl))
 t3:=Tryz.underlying3
 a3:=Tryz.isAgg3
 z3:=Tryz.sizeOf3
 v3:=Tryz.zeroValue3
 t4:=Tryz.underlying4
 a4:=Tryz.isAgg4
 z4:=Tryz.sizeOf4
 v4:=Tryz.zeroValue4
 t5:=Tryz.underlying5
 a5:=Tryz.isAgg5
 z5:=Tryz.sizeOf5
 v5:=Tryz.zeroValue5
 t9:=Tryz.underlying9
 a9:=Tryz.isAgg9
 z9:=Tryz.sizeOf9
 v9:=Tryz.zeroValue9
 t46:=Tryz.underlying364
 a46:=Tryz.isAgg364
 z46:=Tryz.sizeOf364
 v46:=Tryz.zeroValue364
 t51:=Tryz.underlying463
 a51:=Tryz.isAgg463
 z51:=Tryz.sizeOf463
 v51:=Tryz.zeroValue463
 t146:=Tryz.underlying464
 a146:=Tryz.isAgg464
 z146:=Tryz.sizeOf464
 v146:=Tryz.zeroValue464
 g1:=by kernel_rfl}
open Go.RowKit Go.Lib in
theorem Tryz.stringslite_Index_one(s:ByteArray)(c:UInt8)(w:World):
  Calls Tryz.prog 341 #[.string s, .string ⟨#[c]⟩] w λe w'=>e= .returned (.int .i64 (Lib.indexByte s.data.toList c))/\w'=w:=Any.stringslite_Index_one Tryz.mc s c w
def Tryz.jn:Go.Shelf.Ren:=⟨λ|138=>300|195=>338|218=>340|143=>301|219=>341|217=>358|225=>379|224=>380|267=>381|266=>392|314=>408|n=>n,λ|9=>9|3=>3|4=>4|5=>5|0=>0|46=>364|146=>464|51=>463|n=>n,λ|1=>0|n=>n⟩
theorem Tryz.ml:Go.Proofs.Lays.n138 Tryz.prog Tryz.jn:={
 mixed:=by kernel_rfl
 f138:=Tryz.func300.trans (congrArg some (by kernel_rfl))
 f143:=Tryz.func301.trans (congrArg some (by kernel_rfl))
 f195:=Tryz.func338.trans (congrArg some (by kernel_rfl))
 f217:=Tryz.func358.trans (congrArg some (by kernel_rfl))
 f218:=Tryz.func340.trans (congrArg some (by kernel_rfl))
 f219:=Tryz.func341.trans (congrArg some (by kernel_rfl))
 f224:=Tryz.func380.trans (congrArg some (by kernel_rfl))
 f225:=Tryz.func379.trans (congrArg some (by kernel_rfl))
 f266:=Tryz.func392.trans (congrArg some (by kernel_rfl))
 f267:=Tryz.func381.trans (congrArg some (by kernel_rfl))
 f314:=Tryz.func408.trans (congrArg some (by kernel_rfl))
 t0:=Tryz.underlying0
 a0:=Tryz.isAgg0
 z0:=Tryz.sizeOf0
 v0:=Tryz.zeroValue0
 t3:=Tryz.underlying3
 a3:=Tryz.isAgg3
 z3:=Tryz.sizeOf3
 v3:=Tryz.zeroValue3
 t4:=Tryz.underlying4
 a4:=Tryz.isAgg4
 z4:=Tryz.sizeOf4
 v4:=Tryz.zeroValue4
 t5:=Tryz.underlying5
 a5:=Tryz.isAgg5
 z5:=Tryz.sizeOf5
 v5:=Tryz.zeroValue5
 t9:=Tryz.underlying9
 a9:=Tryz.isAgg9
 z9:=Tryz.sizeOf9
 v9:=Tryz.zeroValue9
 t46:=Tryz.underlying364
 a46:=Tryz.isAgg364
 z46:=Tryz.sizeOf364
 v46:=Tryz.zeroValue364
 t51:=Tryz.underlying463
 a51:=Tryz.isAgg463
 z51:=Tryz.sizeOf463
 v51:=Tryz.zeroValue463
 t146:=Tryz.underlying464
 a146:=Tryz.isAgg464
 z146:=Tryz.sizeOf464
 v146:=Tryz.zeroValue464
 g1:=by kernel_rfl}
open Go.RowKit Go.Lib in
theorem Tryz.strings_Count_one(s:ByteArray)(c:UInt8)(w:World):
  Calls Tryz.prog 300 #[.string s, .string ⟨#[c]⟩] w λe w'=>e= .returned (.int .i64 (Lib.countByte s.data.toList c))/\w'=w:=Any.strings_Count_one Tryz.ml s c w
def Tryz.jr:Go.Shelf.Ren:=⟨λ|190=>405|125=>420|258=>419|128=>436|129=>437|302=>427|303=>428|304=>429|305=>430|306=>431|307=>432|308=>433|309=>434|310=>435|333=>440|329=>441|330=>442|334=>443|335=>444|336=>295|344=>445|n=>n,λ|31=>26|9=>9|3=>3|46=>364|0=>0|51=>463|53=>489|4=>4|183=>482|182=>481|131=>238|5=>5|218=>492|222=>496|228=>498|229=>499|n=>n,λ|n=>n⟩
theorem Tryz.kp:Go.Proofs.Lays.n190 Tryz.prog Tryz.jr:={
 mixed:=by kernel_rfl
 f125:=Tryz.func420.trans (congrArg some (by kernel_rfl))
 f128:=Tryz.func436.trans (congrArg some (by kernel_rfl))
 f129:=Tryz.func437.trans (congrArg some (by kernel_rfl))
 f190:=Tryz.func405.trans (congrArg some (by kernel_rfl))
 f258:=Tryz.func419.trans (congrArg some (by kernel_rfl))
 f302:=Tryz.func427.trans (congrArg some (by kernel_rfl))
 f303:=Tryz.func428.trans (congrArg some (by kernel_rfl))
 f304:=Tryz.func429.trans (congrArg some (by kernel_rfl))
 f305:=Tryz.func430.trans (congrArg some (by kernel_rfl))
 f306:=Tryz.func431.trans (congrArg some (by kernel_rfl))
 f307:=Tryz.func432.trans (congrArg some (by kernel_rfl))
 f308:=Tryz.func433.trans (congrArg some (by kernel_rfl))
 f309:=Tryz.func434.trans (congrArg some (by kernel_rfl))
 f310:=Tryz.func435.trans (congrArg some (by kernel_rfl))
 f329:=Tryz.func441.trans (congrArg some (by kernel_rfl))
 f330:=Tryz.func442.trans (congrArg some (by kernel_rfl))
 f333:=Tryz.func440.trans (congrArg some (by kernel_rfl))
 f334:=Tryz.func443.trans (congrArg some (by kernel_rfl))
 f335:=Tryz.func444.trans (congrArg some (by kernel_rfl))
 f336:=Tryz.func295.trans (congrArg some (by kernel_rfl))
 f344:=Tryz.func445.trans (congrArg some (by kernel_rfl))
 t0:=Tryz.underlying0
 a0:=Tryz.isAgg0
 z0:=Tryz.sizeOf0
 v0:=Tryz.zeroValue0
 t3:=Tryz.underlying3
 a3:=Tryz.isAgg3
 z3:=Tryz.sizeOf3
 v3:=Tryz.zeroValue3
 t4:=Tryz.underlying4
 a4:=Tryz.isAgg4
 z4:=Tryz.sizeOf4
 v4:=Tryz.zeroValue4
 t5:=Tryz.underlying5
 a5:=Tryz.isAgg5
 z5:=Tryz.sizeOf5
 v5:=Tryz.zeroValue5
 t9:=Tryz.underlying9
 a9:=Tryz.isAgg9
 z9:=Tryz.sizeOf9
 v9:=Tryz.zeroValue9
 t31:=Tryz.underlying26
 a31:=Tryz.isAgg26
 z31:=Tryz.sizeOf26
 v31:=Tryz.zeroValue26
 t46:=Tryz.underlying364
 a46:=Tryz.isAgg364
 z46:=Tryz.sizeOf364
 v46:=Tryz.zeroValue364
 t51:=Tryz.underlying463
 a51:=Tryz.isAgg463
 z51:=Tryz.sizeOf463
 v51:=Tryz.zeroValue463
 t53:=Tryz.underlying489
 a53:=Tryz.isAgg489
 z53:=Tryz.sizeOf489
 v53:=Tryz.zeroValue489
 t131:=Tryz.underlying238
 a131:=Tryz.isAgg238
 z131:=Tryz.sizeOf238
 v131:=Tryz.zeroValue238
 t182:=Tryz.underlying481
 a182:=Tryz.isAgg481
 z182:=Tryz.sizeOf481
 v182:=Tryz.zeroValue481
 t183:=Tryz.underlying482
 a183:=Tryz.isAgg482
 z183:=Tryz.sizeOf482
 v183:=Tryz.zeroValue482
 t218:=Tryz.underlying492
 a218:=Tryz.isAgg492
 z218:=Tryz.sizeOf492
 v218:=Tryz.zeroValue492
 t222:=Tryz.underlying496
 a222:=Tryz.isAgg496
 z222:=Tryz.sizeOf496
 v222:=Tryz.zeroValue496
 t228:=Tryz.underlying498
 a228:=Tryz.isAgg498
 z228:=Tryz.sizeOf498
 v228:=Tryz.zeroValue498
 t229:=Tryz.underlying499
 a229:=Tryz.isAgg499
 z229:=Tryz.sizeOf499
 v229:=Tryz.zeroValue499}
open Go.Sort Go.RowKit in
theorem Tryz.slices_Sort_string(blk off cap:Nat)(ss:List (List UInt8))(w:World)(hH:Holds encStr w blk off ss.toArray)(Mv:blk<w.heap.size)(BJ:ss.length<4611686018427387904):
  Calls Tryz.prog 405 #[.slice (some ⟨blk,off,none⟩) ss.length cap] w λe w'=>
   e= .returned (.tuple #[])/\ ∃n os,w'=grow (putRow encStr (Sort.ahead w n) blk off (ss.mergeSort λx y=>decide (x<=y)).toArray) os:=Any.slices_Sort_string Tryz.kp blk off cap ss w hH Mv BJ
def Tryz.jq:Go.Shelf.Ren:=⟨λ|194=>406|n=>n,λ|31=>26|9=>9|3=>3|4=>4|0=>0|n=>n,λ|n=>n⟩
theorem Tryz.kq:Go.Proofs.Lays.n194 Tryz.prog Tryz.jq:={
 mixed:=by kernel_rfl
 f194:=Tryz.func406.trans (congrArg some (by kernel_rfl))
 t0:=Tryz.underlying0
 a0:=Tryz.isAgg0
 z0:=Tryz.sizeOf0
 v0:=Tryz.zeroValue0
 t3:=Tryz.underlying3
 a3:=Tryz.isAgg3
 z3:=Tryz.sizeOf3
 v3:=Tryz.zeroValue3
 t4:=Tryz.underlying4
 a4:=Tryz.isAgg4
 z4:=Tryz.sizeOf4
 v4:=Tryz.zeroValue4
 t9:=Tryz.underlying9
 a9:=Tryz.isAgg9
 z9:=Tryz.sizeOf9
 v9:=Tryz.zeroValue9
 t31:=Tryz.underlying26
 a31:=Tryz.isAgg26
 z31:=Tryz.sizeOf26
 v31:=Tryz.zeroValue26}
open Go.RowKit Go.Lib Go.Sort in
theorem Tryz.slices_Compact_string(blk off cap:Nat)(zs:List (List UInt8))(w:World)(hH:Holds encStr w blk off zs.toArray)(BJ:zs.length<=9223372036854775807)(FE:zs.length<=cap):
  Calls Tryz.prog 406 #[.slice (some ⟨blk,off,none⟩) zs.length cap] w λe w'=>e= .returned (.slice (some ⟨blk,off,none⟩) (Lib.compact zs).length cap)/\ ∃q,w'=putRow encStr (Sort.ahead w q) blk off (Lib.compact zs++List.replicate (zs.length-(Lib.compact zs).length) []).toArray:=Any.slices_Compact_string Tryz.kq blk off cap zs w hH BJ FE
open Go.RowKit Go.Lib Go.Sort in
theorem Tryz.slices_Compact_string_empty(a:Option Addr)(cap:Nat)(w:World):
  Calls Tryz.prog 406 #[.slice a 0 cap] w λe w'=>e= .returned (.slice a 0 cap)/\w'=w:=Any.slices_Compact_string_empty Tryz.kq a cap w
open Go.RowKit Go.Sort in
theorem Tryz.slices_Sort_string_none(p:Option Addr)(cap:Nat)(w:World):
  Calls Tryz.prog 405 #[.slice p 0 cap] w λe w'=>e= .returned (.tuple #[])/\w'=w:=Any.slices_Sort_string_none Tryz.kp p cap w
end Go.Proofs
end
section
namespace Go.Proofs.YtlmjpjceiefpoaaGreatDoor
open Go.RowKit
set_option maxRecDepth 100000
theorem zT:∀(l:List UInt8) (c:UInt8), -1<=Lib.indexByte l c/\Lib.indexByte l c<l.length\/Lib.indexByte l c= -1
 | [],_=> .inr rfl
 |b::l,c=>by
  unfold Lib.indexByte;rcases zT l c with h|h
  ·split
   ·left;simp
   ·split
    ·exact .inr rfl
    ·left;rw[AH];omega
  ·rw[h];split
   ·left;simp
   ·right;rfl
theorem pM{n:Int}(h1: -9223372036854775808<=n)(h2:n<=9223372036854775807):FM .i64 n:=Cf h1 h2
theorem zO6{b:ByteArray}{c:UInt8}(h:b.data.toList=[c]):b=⟨#[c]⟩:=by
 cases b with
 |mk d=>cases d with
  |mk l=>simp at h;rw[h]
def aR(s:List UInt8)(c:Int):Option Int:=some (Lib.indexByte s c.toNat.toUInt8)
theorem zjZ(a0:List UInt8)(a1 r:Int)(h:aR a0 a1=some r):Cj Tryz.prog BM 358 [.str a0, .int .u8 a1] (.int .i64 r):=Zw (by kernel_rfl) λw vs rf hr=>by
 obtain⟨b,us,rfl,rfl,hb,hr⟩:=Lp hr;obtain⟨us1,rfl,_,hr⟩:=Pd hr;obtain⟨rfl,rfl⟩:=Kn hr;refine(Tryz.stringslite_IndexByte b a1 w).mono ?_;rintro e w' ⟨rfl,rfl⟩;cases h;have hl:b.data.toList.length<=9223372036854775807:=by rw[BF];exact hb
 exact⟨Mod.refl [] _,_,[],rfl, .int (by rcases zT b.data.toList a1.toNat.toUInt8 with h|h<;>exact pM (by omega) (by omega)) .nil,by simp⟩
def aW(s sub:List UInt8):Option Int:=match sub with| [c]=>some (Lib.indexByte s c)|_=>none
theorem zmn(a0 a1:List UInt8)(r:Int)(h:aW a0 a1=some r):Cj Tryz.prog BM 341 [.str a0, .str a1] (.int .i64 r):=Zw (by kernel_rfl) λw vs rf hr=>by
 obtain⟨b,us,rfl,rfl,hb,hr⟩:=Lp hr;obtain⟨b1,us1,rfl,h1,_,hr⟩:=Lp hr;obtain⟨rfl,rfl⟩:=Kn hr
 match a1,h,h1 with
 | [c],h,h1=>
  have:=zO6 h1;subst this;refine(Tryz.stringslite_Index_one b c w).mono ?_;rintro e w' ⟨rfl,rfl⟩;cases h;have hl:b.data.toList.length<=9223372036854775807:=by rw[BF];exact hb
  exact⟨Mod.refl [] _,_,[],rfl, .int (by rcases zT b.data.toList c with h|h<;>exact pM (by omega) (by omega)) .nil,by simp⟩
 | [],h,_=>cases h
 |_::_::_,h,_=>cases h
def dK(s sub:List UInt8):Option Int:=match sub with| [c]=>some (Lib.countByte s c:Int)|_=>none
theorem zx7(a0 a1:List UInt8)(r:Int)(h:dK a0 a1=some r):Cj Tryz.prog BM 300 [.str a0, .str a1] (.int .i64 r):=Zw (by kernel_rfl) λw vs rf hr=>by
 obtain⟨b,us,rfl,rfl,hb,hr⟩:=Lp hr;obtain⟨b1,us1,rfl,h1,_,hr⟩:=Lp hr;obtain⟨rfl,rfl⟩:=Kn hr
 match a1,h,h1 with
 | [c],h,h1=>
  have:=zO6 h1;subst this;refine(Tryz.strings_Count_one b c w).mono ?_;rintro e w' ⟨rfl,rfl⟩;cases h;have hl:b.data.toList.length<=9223372036854775807:=by rw[BF];exact hb
  have:Lib.countByte b.data.toList c<=b.data.toList.length:=List.count_le_length;exact⟨Mod.refl [] _,_,[],rfl, .int (pM (by omega) (by omega)) .nil,by simp⟩
 | [],h,_=>cases h
 |_::_::_,h,_=>cases h
def wF(_:List UInt8)(_:Int):Option (List (List UInt8)):=none
theorem zup(a0:List UInt8)(a1:Int)(r:List (List UInt8))(h:wF a0 a1=some r):Cj Tryz.prog BM 299 [.str a0, .int .i64 a1] (.sl (r.map Cy)):=by cases h
noncomputable def gN(xs:List (List UInt8))(sep:List UInt8):Option (List UInt8):=Ar (xs.length<=140737488355328/\(Lib.join xs sep).length<=140737488355328) (some (Lib.join xs sep))
theorem iY{w:World}:∀{cs:List Value} {xs:List (List UInt8)} {f:List Nat},Rd w cs (Az (xs.map Cy)) f-> ∃bs:List ByteArray,cs=bs.map Value.string/\bs.map (·.data.toList)=xs
 |cs,[],f,h=>by obtain⟨rfl,_⟩:=Kn (by simpa[Az]using h);exact⟨[],rfl,rfl⟩
 |cs,x::xs,f,h=>by
  have h':Rd w cs (.str x::Az (xs.map Cy)) f:=by simpa[Az]using h
  obtain⟨b,us,rfl,rfl,_,h2⟩:=Lp h';obtain⟨bs,rfl,rfl⟩:=iY h2;exact⟨b::bs,rfl,rfl⟩
theorem zzb(a0:List (List UInt8))(a1 r:List UInt8)(h:gN a0 a1=some r):Cj Tryz.prog BM 250 [.sl (a0.map Cy), .str a1] (.str r):=Zw (by kernel_rfl) λw vs rf hr=>by
 obtain⟨⟨Hn,IX⟩,h⟩:=F4 h;cases h;generalize hx:a0.map Cy=ys at hr;cases hr with
 |gk hr=>
  obtain⟨b1,us1,rfl,rfl,_,hr⟩:=Lp hr;obtain⟨rfl,rfl⟩:=Kn hr;have:a0=[]:=by simpa using hx
  subst this;refine(Tryz.strings_Join_none _ _ b1 w).mono ?_;rintro e w' ⟨rfl,rfl⟩;exact⟨Mod.refl [] _,_,[],rfl, .str (by simp[ByteArray.size]) .nil,by simp⟩
 |scons hb h1 h2 h3 h4 h5 h6 HZ h7 hr=>
  rename_i bk o n c cs C t fz sz f1 vs f;obtain⟨b1,us1,rfl,rfl,_,hr⟩:=Lp hr;obtain⟨rfl,rfl⟩:=Kn hr;subst hx;obtain⟨bs,rfl,rfl⟩:=iY h7;have hn:n=bs.length:=by simpa using h3.symm
  subst hn;have J5:bk<w.heap.size:=Di hb;refine(Tryz.strings_Join bk o c bs b1 w (λj x hx=> ?_) J5 (by simpa using Hn) h2.2 IX).mono ?_
  ·have:=h6 j (.string x) (by simp[hx]);rw[EO hb];exact this
  ·rintro e w' ⟨rfl,mF⟩;exact⟨.jc mF (AB _),_,[],rfl, .str (by simp[ByteArray.size];omega) .nil,by simp⟩
theorem gZ{P:Program}(w:World)(dT sT ty elem:TypeId)(k:Nat)(g o dLen dCap:Nat)(a:Addr)(sLen sCap:Nat)(cur:Array Value)(t:TypeId)(cs:List Value)
  (hu:P.underlying dT=some (.slice elem)) (hs:(P.info? elem).map (·.size)=some k)
  (hg:w.heap[g]?=some (.cells cur t (0,0))) (hn:cs.length=Nat.min sLen dLen*k)
  (Dx:∀j v,cs[j]?=some v->w.cell? (a.add j)=some v) (H9:o+cs.length<=cur.size) (h1:∀v∈cs,v.oneCell'=true):
  (Builtin.copy_ #[dT,sT] ty #[.slice (some ⟨g,o,none⟩) dLen dCap, .slice (some a) sLen sCap]).run P w=
   .ok (goInt (Nat.min sLen dLen)) (w.setRow g (cur.toList.take o++cs++cur.toList.drop (o+cs.length)).toArray):=by
 have hl:=run_loadCells_list (P:=P) w a cs Dx;have FG:=run_storeCells_at P g o t cs 0 cur w hg (by simpa using H9) h1;cases hq:P.info? elem with
 |none=>simp[hq]at hs
 |some i=>
  have hi:i.size=k:=by simpa[hq]using hs
  rw[hn]at hl;simp[Builtin.copy_,run_underlying hu,Builtin.lenOf,Builtin.firstCells,sizeOf,typeInfo,hq,hi,hl,FG]
theorem z7{P:Program}(w:World){ops:Array Oper}{rest:List Oper}{o:Oper}{a:Act}{Q:Exit->Act->World->Prop}(Rn:o.guard=none)(d s:Operand)(t t':TypeId)
  (ho:o.op= .call {callee:= .builtin .copy,args:= #[d,s],argTypes:= #[t,t']}) (v u:Value) (hd:a.eval d=v) (hs:a.eval s=u) {v':Value} {w':World}
  (hr:(Builtin.copy_ #[t,t'] o.type #[v,u]).run P w= .ok v' w') (h:wpList P ops Q rest (a.put o.dst v') w'):wpList P ops Q (o::rest) a w:=
 wpList_plain Rn λ_ hK=>by unfold Oper.wp execOp;simp only[ho,resolve,invoke,builtin,Sem.run_bind,Sem.run_pure,Result.andThen_ok,List.map_toArray,List.map_cons,List.map_nil,hd,hs,hr];exact hK _ _ h
theorem zyb{P:Program}{ops:Array Oper}{o:Oper}{a:Act}{w:World}{K:Act->World->Prop}{Q:Exit->Act->World->Prop}{E:Prop}
  (hg:o.guard=none) (d x:Operand) (dT sT:TypeId) (AY:o.op=Op.call {callee:=Callee.builtin Builtin.copy,args:= #[d,x],argTypes:= #[dT,sT]})
  (v u:Value) (hd:a.eval d=v) (hx:a.eval x=u) {v':Value} {w':World} (hr:(Builtin.copy_ #[dT,sT] o.type #[v,u]).run P w= .ok v' w') (hK:K (a.put o.dst v') w'):
  if Region.wanted o (yielded ops a.tmps)=true then Oper.wp P o a w K Q else E:=by
 have hw:Region.wanted o (yielded ops a.tmps)=true:=by simp[Region.wanted,hg]
 rw[if_pos hw];unfold Oper.wp;simp[execOp,AY,resolve,invoke,builtin,hd,hx,hr,Result.andThen];exact hK
def Dq(w:World)(el:TypeId)(k:Nat)(g cap:Nat)(C:Array Value)(n:Nat)(cs:List Value):Prop:=
 n<=cap/\cap<=maxLen/\w.heap[g]?=some (.cells C el (0,0))/\C.size=cap*k/\cs=C.toList.take (n*k)
def Qo(w w':World)(el:TypeId)(k:Nat)(own:List Nat)(v:Value)(n:Nat)(cs:List Value):Prop:=
 ∃g cap C,v= .slice (some ⟨g,0,none⟩) n cap/\Dq w' el k g cap C n cs/\Mod own w w'/\(g∈own\/w.heap.size<=g)
def Lu(P:Program)(f:Nat)(el:TypeId)(k:Nat):Prop:=
 ∀(w:World) (v:Value) (n i:Nat) (cs:List Value) (own:List Nat) (vb vc m:Nat) (VC:Array Value) (vs:List Value),cs.length=n*k->
  ((n=0/\ ∃q,v= .slice q 0 0)\/ ∃g cap C,v= .slice (some ⟨g,0,none⟩) n cap/\Dq w el k g cap C n cs/\g∈own)->i<=n->Dq w el k vb vc VC m vs->(∀g∈own,vb≠g)->0<m->(n+m)*1000<=140737488355328->
  (∀u∈vs,u.oneCell'=true)->(∀u∈cs,u.oneCell'=true)->
  Calls P f #[v, .int .i64 i, .slice (some ⟨vb,0,none⟩) m vc] w λe w'=> ∃u,e= .returned u/\Qo w w' el k own u (n+m) (cs.take (i*k)++vs++cs.drop (i*k))
theorem Dq.cell{w:World}{el:TypeId}{k g cap:Nat}{C:Array Value}{n:Nat}{cs:List Value}(h:Dq w el k g cap C n cs)(off j:Nat)(v:Value)(hj:(cs.drop off)[j]?=some v):w.cell? ((⟨g,off,none⟩:Addr).add j)=some v:=by
 obtain⟨_,_,h3,_,h5⟩:=h;rw[Addr.add_lit,EO h3];rw[List.getElem?_drop,h5,List.getElem?_take]at hj;split at hj
 ·simpa using hj
 ·cases hj
theorem Dq.len{w:World}{el:TypeId}{k g cap:Nat}{C:Array Value}{n:Nat}{cs:List Value}(h:Dq w el k g cap C n cs):cs.length=n*k:=by obtain⟨h1,_,_,h4,h5⟩:=h;have:=Bz k h1;rw[h5,AE,BF];omega
theorem zQz{α:Type}(cur cs vs:List α)(i m n:Nat)(hc:cs=cur.take n)(hi:i<=n)(hv:vs.length=m)(hn:n+m<=cur.length):
  let c1:=cur.take (i+m)++cs.drop i++cur.drop (i+m+(cs.drop i).length)
  (c1.take i++vs++c1.drop (i+vs.length)).take (n+m)=cs.take i++vs++cs.drop i:=by
 have AD:cs.length=n:=by rw[hc,AE];omega
 have hd:(cs.drop i).length=n-i:=by rw[Bn,AD]
 intro c1;have e1:c1.take i=cs.take i:=by show(cur.take (i+m)++cs.drop i++_).take i=_;rw[List.append_assoc,List.take_append_of_le_length (by rw[AE];omega),List.take_take,hc,List.take_take];congr 1;omega
 have e2:c1.drop (i+vs.length)=cs.drop i++cur.drop (i+m+(cs.drop i).length):=by show(cur.take (i+m)++cs.drop i++_).drop _=_;rw[List.append_assoc,List.drop_append_of_le_length (by rw[AE,hv];omega),List.drop_eq_nil_of_le (by rw[AE,hv];omega),List.nil_append]
 rw[e1,e2];have l1:(cs.take i++vs++cs.drop i).length=n+m:=by simp only[Av,AE,hv,hd,AD];omega
 rw[<-List.append_assoc,<-l1,List.take_left]
theorem two{α:Type}(zs cs vs:List α)(i m n:Nat)(cur:List α)(mN:cur=cs.take i++zs)(AD:cs.length=n)(hi:i<=n)(hv:vs.length=m)(hz:n+m-i<=zs.length):
  let c1:=cur.take i++vs++cur.drop (i+vs.length)
  (c1.take (i+m)++cs.drop i++c1.drop (i+m+(cs.drop i).length)).take (n+m)=cs.take i++vs++cs.drop i:=by
 have ht:(cs.take i).length=i:=by rw[AE];omega
 intro c1;have e1:c1=cs.take i++vs++cur.drop (i+vs.length):=by show cur.take i++vs++cur.drop (i+vs.length)=_;rw[mN];congr 2;rw[List.take_append_of_le_length (by omega),List.take_take,Nat.min_self]
 have e2:c1.take (i+m)=cs.take i++vs:=by
  have l2:(cs.take i++vs).length=i+m:=by rw[Av,ht,hv]
  rw[e1,<-l2,List.take_left]
 rw[e2];have l1:(cs.take i++vs++cs.drop i).length=n+m:=by simp only[Av,ht,hv,Bn,AD];omega
 rw[<-l1,List.take_left]
theorem OY(xs ys:List AV):Az (xs++ys)=Az xs++Az ys:=by simp[Az]
theorem QR{K:Nat}{xs:List AV}(h:∀y∈xs,y.cells.length=K){i:Nat}(hi:i<=xs.length):Az (xs.take i)=(Az xs).take (i*K)/\Az (xs.drop i)=(Az xs).drop (i*K):=by
 have l1:(Az (xs.take i)).length=i*K:=by rw[Lf _ λy hy=>h y (BD hy),AE,Nat.min_eq_left hi]
 have e:Az xs=Az (xs.take i)++Az (xs.drop i):=by rw[<-OY,B6]
 rw[e,<-l1,List.take_left,List.drop_left];exact⟨rfl,rfl⟩
theorem Dd.me{w:World}{el K:Nat}{v:Value}{x:AV}{top:List Nat}(h:Dd w el K v x top []):∃xs cs,x= .sl xs/\0<K/\(∀y∈xs,y.cells.length=K)/\cs.length=xs.length*K/\Rd w cs (Az xs) []/\(∀u∈cs,u.oneCell'=true)/\
  ((xs=[]/\top=[]/\ ∃q,v= .slice q 0 0)\/ ∃g cap C,v= .slice (some ⟨g,0,none⟩) xs.length cap/\Dq w el K g cap C xs.length cs/\top=[g]):=by
 obtain⟨xs,rfl,h2,h3,⟨rfl,⟨a,hv⟩,rfl,_⟩|⟨g,cap,C,rfl,h6,h7,h8,h9,rfl,EX,EE⟩⟩:=h
 ·exact⟨[],[],rfl,h3,h2,by simp,by simpa[Az]using Rd.nil,by simp, .inl ⟨rfl,rfl,a,hv⟩⟩
 ·exact⟨xs,_,rfl,h3,h2,(Dq.len ⟨h6,h7,h8,h9,rfl⟩),EE,EX, .inr ⟨g,cap,C,rfl,⟨h6,h7,h8,h9,rfl⟩,rfl⟩⟩
theorem kG{P:Program}{w:World}{t el:TypeId}{v:Value}{x:AV}{rf hs:List Nat}(ha:Aq P t=false)(hl:Bc P t=[t])(he:CH P t=some el)(hf:Ch P el=true)(h:MY P w t [true] v x rf hs):rf=[]/\Dd w el (P.cellsOf el) v x hs []:=by
 obtain⟨us,ys,h1,h2⟩:=h;rw[ha]at h1;simp only[A7,if_false]at h1;obtain⟨rfl,rfl⟩:=h1;rw[hl]at h2;cases h2 with
 |own q1 q2 q3 q4 q5=>
  cases q5;rw[he]at q2;cases q2;rcases q3 with⟨_,rfl⟩|⟨h,_⟩
  ·exact⟨rfl,by simpa using q4⟩
  ·rw[hf]at h;cases h
 |deep q1 q2 q3=>rw[he]at q2;cases q2;rw[hf]at q3;cases q3
 |rd q1=>have:=q1 rfl;rw[he]at this;cases this
def tF(P:Program)(sg:BY)(f:Nat)(t it el K:Nat):Bool:=
 match P.funcs[f]?,sg f with
 |some fn,some s=>(match s.c8,s.res,s.ft,s.lo with
  | [.va [true], .ro, .va [true]],[true],[],[]=>true
  |_,_,_,_=>false)&&fn.body.isSome&& !(fn.name== "runtime.NumGoroutine")&&fn.params.toList==[t,it,t]&&fn.resultTypes.toList==[t]&&fn.nfree==0&& !Aq P t&&Bc P t==[t]&&CH P t==some el&&Ch P el&&P.cellsOf el==K&&FL P t [true]&&fn.params.size==3
 |_,_=>false
def HR(P:Program)(sg:BY)(f:Nat)(r:List AV):Bool:=match P.funcs[f]?,sg f with
 |some fn,some s=>Nv P fn s (.sl r)
 |_,_=>false
theorem zNV{f t it el K:Nat}(hk:tF Tryz.prog BM f t it el K=true)(Ci:∀r,HR Tryz.prog BM f r=true)(D3:Lu Tryz.prog f el K)(xs ys:List AV)(i:Int)(h0:0<=i)(h1:i<=xs.length)(hy:ys≠ [])(hb:(xs.length+ys.length)*1000<=140737488355328):
  Cj Tryz.prog BM f [.sl xs, .int .i64 i, .sl ys] (.sl (xs.take i.toNat++ys++xs.drop i.toNat)):=by
 unfold tF at hk;split at hk
 ·rename_i fn s hf hs;simp only[Ac,Bk,Ay]at hk;obtain⟨⟨⟨⟨⟨⟨⟨⟨⟨⟨⟨⟨g1,g2⟩,g3⟩,g4⟩,g5⟩,g6⟩,g7⟩,g8⟩,g9⟩,g10⟩,g11⟩,g12⟩,g13⟩:=hk;obtain⟨hm,hr,Cr,B7⟩:s.c8=[.va [true], .ro, .va [true]]/\s.res=[true]/\s.ft=[]/\s.lo=[]:=by
   split at g1
   ·rename_i a b c d;exact⟨a,b,c,d⟩
   ·cases g1
  unfold Cj;rw[if_pos (Ks f s hs)];refine⟨s,hs,fn,hf,g2,g3,by have:=Ci (xs.take i.toNat++ys++xs.drop i.toNat);unfold HR at this;rw[hf,hs]at this;exact this,by simp[g6,g13],by simp[Cr],λw vs rf lf A9 Aj hd _ Cb D5=> ?_⟩;rw[g4,Cr,AG,hm,B7]at Aj;cases Aj with
  |lent h _ _ _=>cases h
  | @cons _ _ _ _ v1 vs1 _ _ f1 k1 rf1 lf1 BO a1 Aj=>
   cases Aj with
   |lent h _ _ _=>cases h
   | @cons _ _ _ _ v2 vs2 _ _ f2 k2 rf2 lf2 Bd a2 Aj=>
    cases Aj with
    |lent h _ _ _=>cases h
    | @cons _ _ _ _ v3 vs3 _ _ f3 k3 rf3 lf3 Hp a3 Aj=>
     cases Aj;obtain⟨rfl,r1⟩:=kG g7 g8 g9 g10 a1;obtain⟨rfl,r3⟩:=kG g7 g8 g9 g10 a3;obtain⟨a2,rfl⟩:Rd w [v2] [AV.int .i64 i] f2/\k2=[]:=a2;obtain⟨us,rfl2,hI,a2⟩:=Pd a2;obtain⟨rfl,rfl⟩:=Kn a2;cases rfl2;obtain⟨xs',cs,e1,p0,p1,p2,p3,p4,p5⟩:=r1.me;cases e1;obtain⟨ys',cv,e2,_,q1,q2,q3,q4,q5⟩:=r3.me;cases e2;rw[g11]at p0 p1 p2 p5 q1 q2 q5;obtain⟨vb,vc,VC,rfl,hv,rfl⟩:∃g cap C,v3= .slice (some ⟨g,0,none⟩) ys.length cap/\Dq w el K g cap C ys.length cv/\k3=[g]:=by
      rcases q5 with⟨h,_⟩|h
      ·exact absurd h hy
      ·exact h
     have nT:k1++ [vb]=k1++([]++([vb]++ [])):=by simp
     have IS:∀g∈k1,vb≠g:=by intro g hg e;subst e;have:=(List.nodup_append.1 Cb).2.2 vb hg vb (by simp);exact this rfl
     have V3:0<ys.length:=by cases ys with|nil=>exact absurd rfl hy|cons=>simp
     have hc:=D3 w v1 xs.length i.toNat cs k1 vb vc ys.length VC cv p2 (by
      rcases p5 with⟨rfl,_,q,rfl⟩|⟨g,cap,C,rfl,h,rfl⟩
      ·exact .inl ⟨rfl,q,rfl⟩
      ·exact .inr ⟨g,cap,C,rfl,h,by simp⟩) (by omega) hv IS V3 hb q4 p4
     rw[show((i.toNat:Nat):Int)=i by omega]at hc;refine hc.mono ?_;rintro e w' ⟨u,rfl,g,cap,C,rfl,⟨z1,z2,z3,z4,z5⟩,Bg,Ey⟩;have J7:∀{us:List Value} {zs:List AV},Rd w us zs []->Rd w' us zs []:=λh=>h.frame (by simp);have cut:∀o n,Rd w ((cs.drop o).take n) (((Az xs).drop o).take n) []:=λo n=>by
      obtain⟨gg,k1,k2⟩:=p3.piece o n;have:gg=[]:=List.eq_nil_iff_forall_not_mem.2 λb hb=>by simpa using k1 b hb
      rw[this]at k2;exact k2
     obtain⟨t1,t2⟩:=QR p1 (i:=i.toNat) (by omega);have hmul:=Bz K (show i.toNat<=xs.length by omega);have DX:Rd w' (cs.take (i.toNat*K)++cv++cs.drop (i.toNat*K)) (Az (xs.take i.toNat++ys++xs.drop i.toNat)) []:=by rw[OY,OY,t1,t2];have c1:=cut 0 (i.toNat*K);have c2:=cut (i.toNat*K) (cs.length-i.toNat*K);rw[List.drop_zero,List.drop_zero]at c1;rw[List.take_of_length_le (by simp),List.take_of_length_le (by rw[Bn,Lf _ p1,p2];exact AB _)]at c2;exact(((J7 c1).app (J7 q3)).app (J7 c2))
     have hlen:(xs.take i.toNat++ys++xs.drop i.toNat).length=xs.length+ys.length:=by simp only[Av,AE,Bn];omega
     have Bj:Dd w' el K (.slice (some ⟨g,0,none⟩) (xs.length+ys.length) cap) (.sl (xs.take i.toNat++ys++xs.drop i.toNat)) [g] []:=by
      refine⟨_,rfl,λy hy=> ?_,p0, .inr ⟨g,cap,C,by rw[hlen],by rw[hlen];exact z1,z2,z3,z4,rfl,?_,?_⟩⟩
      ·rcases Ae.1 hy with hy|hy
       ·rcases Ae.1 hy with hy|hy
        ·exact p1 y (BD hy)
        ·exact q1 y hy
       ·exact p1 y (BR hy)
      ·rw[hlen,<-z5];intro u hu;rcases Ae.1 hu with hu|hu
       ·rcases Ae.1 hu with hu|hu
        ·exact p4 u (BD hu)
        ·exact q4 u hu
       ·exact p4 u (BR hu)
      ·rw[hlen,<-z5];exact DX
     refine⟨_,rfl,⟨⟨_,[],[],[g],[],[],rfl,?_,?_,by simp,?_,by simp⟩,Bg.weaken λb hb=> .inl (by simp[hb])⟩⟩
     ·rw[g5];show DI Tryz.prog w' t s.res _ _ [] [g];unfold DI;rw[hr,if_pos g12];refine⟨[.slice (some ⟨g,0,none⟩) (xs.length+ys.length) cap],[.sl (xs.take i.toNat++ys++xs.drop i.toNat)],by rw[g7];simp,?_⟩;rw[g8];have:=CA.own (P:=Tryz.prog) (t:=t) (ts:=[]) (fl:=[true]) (us:=[]) (ys:=[]) (rf:=[]) (hs:=[]) rfl g9 (.inl ⟨g10,rfl⟩) (by rw[g11];exact Bj) .nil;simpa using this
     ·rw[g4,Cr,AG,hm];exact .va rfl (.ro rfl (.va rfl .nil))
     ·intro b hb;simp only[AG,List.mem_singleton]at hb;subst hb;exact⟨by rcases Ey with h|h;exact .inl (by simp[h]);exact .inr h,Di z3⟩
 ·cases hk
noncomputable def Gt{α:Type}(xs:List α)(i:Int)(ys:List α):Option (List α):=Ar (0<=i/\i<=xs.length/\0<ys.length/\(xs.length+ys.length)*1000<=140737488355328) (some (xs.take i.toNat++ys++xs.drop i.toNat))
theorem zKc{f t it el K:Nat}(hk:tF Tryz.prog BM f t it el K=true)(Ci:∀r,HR Tryz.prog BM f r=true)(D3:Lu Tryz.prog f el K){α:Type}{av:α->AV}{xs ys r:List α}{i:Int}(h:Gt xs i ys=some r):
  Cj Tryz.prog BM f [.sl (xs.map av), .int .i64 i, .sl (ys.map av)] (.sl (r.map av)):=by
 obtain⟨⟨h0,h1,h2,h3⟩,h⟩:=F4 h;cases h;have:=zNV hk Ci D3 (xs.map av) (ys.map av) i h0 (by simpa using h1) (by cases ys with|nil=>simp at h2|cons=>simp) (by simpa using h3);simpa[List.map_append,List.map_take,List.map_drop]using this
theorem zzL{P:Program}{w:World}{t el K:Nat}{l:AM}{v:Value}{x:AV}{rf hs:List Nat}(ha:Aq P t=false)(hl:Bc P t=[t])(he:CH P t=some el)(hf:Ch P el=false)(hd:DJ P t=some (.row el K l))(h:MY P w t [true] v x rf hs):rf=[]/\DC w [.row el K l] [v] [x] hs:=by
 obtain⟨us,ys,h1,h2⟩:=h;rw[ha]at h1;simp only[A7,if_false]at h1;obtain⟨rfl,rfl⟩:=h1;rw[hl]at h2;cases h2 with
 |own q1 q2 q3 q4 q5=>
  rw[he]at q2;cases q2;rcases q3 with⟨h,_⟩|⟨_,h⟩
  ·rw[hf]at h;cases h
  ·rw[hd]at h;cases h
 |deep q1 q2 q3 q4 q5 q6=>cases q6;rw[hd]at q4;cases q4;exact⟨rfl,by simpa using q5⟩
 |rd q1=>have:=q1 rfl;rw[he]at this;cases this
theorem zKr(l:List DT){n i:Nat}(hi:i<=n):B9 n l=B9 i l++B9 (n-i) l:=by rw[<-QW];congr 1;omega
theorem DC.cut{w:World}{xs:List AV}{l:List DT}{K:Nat}{cs:List Value}{N:List Nat}(hK:l.length=K)(h:DC w (B9 xs.length l) cs (Az xs) N)(hx:∀y∈xs,y.cells.length=K){i:Nat}(hi:i<=xs.length):
  ∃N1 N2,N=N1++N2/\DC w (B9 i l) (cs.take (i*K)) (Az (xs.take i)) N1/\DC w (B9 (xs.length-i) l) (cs.drop (i*K)) (Az (xs.drop i)) N2:=by
 have hlen:=h.len;have t1:=QR hx hi;have hmul:=Bz K hi;rw[zKr l hi,<-B6 (i*K) cs,<-B6 (i*K) (Az xs)]at h;rw[O3,hK]at hlen;obtain⟨N1,N2,rfl,h1,h2⟩:=DC.gh (by rw[O3,hK,AE];omega) (by rw[O3,hK,AE];omega) h;exact⟨N1,N2,rfl,by rw[t1.1];exact h1,by rw[t1.2];exact h2⟩
def sZ(P:Program)(sg:BY)(f:Nat)(t it el K:Nat)(l:List DT):Bool:=
 match P.funcs[f]?,sg f with
 |some fn,some s=>(match s.c8,s.res,s.ft,s.lo with
  | [.va [true], .ro, .va [true]],[true],[],[]=>true
  |_,_,_,_=>false)&&fn.body.isSome&& !(fn.name== "runtime.NumGoroutine")&&fn.params.toList==[t,it,t]&&fn.resultTypes.toList==[t]&&fn.nfree==0&& !Aq P t&&Bc P t==[t]&&CH P t==some el&& !Ch P el&&Nt (DJ P t) el K l&&FL P t [true]&&fn.params.size==3
 |_,_=>false
theorem zLZ{f t it el K:Nat}{l:List DT}(hk:sZ Tryz.prog BM f t it el K l=true)(Ci:∀r,HR Tryz.prog BM f r=true)(D3:Lu Tryz.prog f el K)(xs ys:List AV)(i:Int)(h0:0<=i)(h1:i<=xs.length)(hy:ys≠ [])(hb:(xs.length+ys.length)*1000<=140737488355328):
  Cj Tryz.prog BM f [.sl xs, .int .i64 i, .sl ys] (.sl (xs.take i.toNat++ys++xs.drop i.toNat)):=by
 unfold sZ at hk;split at hk
 ·rename_i fn s hf hs;simp only[Ac,Bk,Ay]at hk;obtain⟨⟨⟨⟨⟨⟨⟨⟨⟨⟨⟨⟨g1,g2⟩,g3⟩,g4⟩,g5⟩,g6⟩,g7⟩,g8⟩,g9⟩,g10⟩,g11⟩,g12⟩,g13⟩:=hk;have g11:=T0 g11;obtain⟨hm,hr,Cr,B7⟩:s.c8=[.va [true], .ro, .va [true]]/\s.res=[true]/\s.ft=[]/\s.lo=[]:=by
   split at g1
   ·rename_i a b c d;exact⟨a,b,c,d⟩
   ·cases g1
  unfold Cj;rw[if_pos (Ks f s hs)];refine⟨s,hs,fn,hf,g2,g3,by have:=Ci (xs.take i.toNat++ys++xs.drop i.toNat);unfold HR at this;rw[hf,hs]at this;exact this,by simp[g6,g13],by simp[Cr],λw vs rf lf A9 Aj hd _ Cb D5=> ?_⟩;rw[g4,Cr,AG,hm,B7]at Aj;cases Aj with
  |lent h _ _ _=>cases h
  | @cons _ _ _ _ v1 vs1 _ _ f1 k1 rf1 lf1 BO a1 Aj=>
   cases Aj with
   |lent h _ _ _=>cases h
   | @cons _ _ _ _ v2 vs2 _ _ f2 k2 rf2 lf2 Bd a2 Aj=>
    cases Aj with
    |lent h _ _ _=>cases h
    | @cons _ _ _ _ v3 vs3 _ _ f3 k3 rf3 lf3 Hp a3 Aj=>
     cases Aj;obtain⟨rfl,r1⟩:=zzL g7 g8 g9 g10 g11 a1;obtain⟨rfl,r3⟩:=zzL g7 g8 g9 g10 g11 a3;obtain⟨a2,rfl⟩:Rd w [v2] [AV.int .i64 i] f2/\k2=[]:=a2;obtain⟨us,rfl2,hI,a2⟩:=Pd a2;obtain⟨rfl,rfl⟩:=Kn a2;cases rfl2;obtain⟨p0,pl,r1'⟩:=r1.inv;obtain⟨_,_,⟨a,_,e2,_⟩|⟨vb,vc,VC,ys',M,rfl,e2,rfl,q1,q2,q3,q4,q5,q6,q7⟩⟩:=r3.inv
     ·cases e2;exact absurd rfl hy
     cases e2;rw[AM.ax]at pl q7;have V3:0<ys.length:=by cases ys with|nil=>exact absurd rfl hy|cons=>simp
     have hv:Dq w el K vb vc VC ys.length (VC.toList.take (ys.length*K)):=⟨q2,q3,q1,q4,rfl⟩
     obtain⟨cs,own,N,e1,Hl,AD,A2,hsin,VI,oF,J6⟩:∃(cs:List Value) (own N:List Nat),k1=own++N/\own.length<=1/\cs.length=xs.length*K/\
       ((xs.length=0/\ ∃q,v1= .slice q 0 0)\/ ∃g cap C,v1= .slice (some ⟨g,0,none⟩) xs.length cap/\Dq w el K g cap C xs.length cs/\g∈own)/\(∀g∈own,g∈k1)/\(∀u∈cs,u.oneCell'=true)/\(∀y∈xs,y.cells.length=K)/\DC w (B9 xs.length l) cs (Az xs) N:=by
      rcases r1' with⟨a,rfl,e1,rfl⟩|⟨g,cap,C,xs',N,rfl,e1,rfl,d1,d2,d3,d4,d5,d6,d7⟩
      ·cases e1;exact⟨[],[],[],rfl,by simp,by simp, .inl ⟨rfl,a,rfl⟩,by simp,by simp,by simp,by simpa[B9,Az]using DC.nil⟩
      ·cases e1;rw[AM.ax]at d7;have hR:Dq w el K g cap C xs.length (C.toList.take (xs.length*K)):=⟨d2,d3,d1,d4,rfl⟩
       exact⟨_,[g],N,rfl,by simp,hR.len, .inr ⟨g,cap,C,rfl,hR,by simp⟩,by simp,d6,d5,d7⟩
     subst e1;have Cs:i.toNat<=xs.length:=by omega
     have IS:∀g∈own,vb≠g:=by intro g hg e;subst e;have hn:((own++N)++([]++((vb::M)++ []))).Nodup:=Cb;exact(List.nodup_append.1 hn).2.2 vb (by simp[hg]) vb (by simp) rfl
     have hc:=D3 w v1 xs.length i.toNat cs own vb vc ys.length VC _ AD A2 Cs hv IS V3 hb q6 VI;rw[show((i.toNat:Nat):Int)=i by omega]at hc;refine hc.mono ?_;rintro e w' ⟨u,rfl,g,cap,C,rfl,⟨z1,z2,z3,z4,z5⟩,Bg,Ey⟩;have GM:((own++N)++(vb::M)).Nodup:=by simpa using Cb
     have nX:∀b∈N,b∉own:=λb hb ho=>(List.nodup_append.1 (List.nodup_append.1 GM).1).2.2 b ho b hb rfl;have hoM:∀b∈M,b∉own:=λb hb ho=>(List.nodup_append.1 GM).2.2 b (by simp[ho]) b (by simp[hb]) rfl;have fN:=J6.frame (w':=w') λb hb=>Bg.block b (J6.inb b hb) (nX b hb);have fM:=q7.frame (w':=w') λb hb=>Bg.block b (q7.inb b hb) (hoM b hb);obtain⟨N1,N2,rfl,c1,c2⟩:=fN.cut pl oF Cs;have hlen:(xs.take i.toNat++ys++xs.drop i.toNat).length=xs.length+ys.length:=by simp only[Av,AE,Bn];omega
     have Ck:DC w' (B9 (xs.length+ys.length) l) (C.toList.take ((xs.length+ys.length)*K)) (Az (xs.take i.toNat++ys++xs.drop i.toNat)) (N1++M++N2):=by rw[<-z5,OY,OY,show xs.length+ys.length=(i.toNat+ys.length)+(xs.length-i.toNat) by omega,QW,QW];exact(c1.app fM).app c2
     have Bj:DC w' [.row el K (AM.of l)] [.slice (some ⟨g,0,none⟩) (xs.length+ys.length) cap] [.sl (xs.take i.toNat++ys++xs.drop i.toNat)] (g::(N1++M++N2)):=by
      have:=DC.row (w:=w') (e:=el) (z:=K) (l:=AM.of l) (g:=g) (cap:=cap) (C:=C) (ys:=xs.take i.toNat++ys++xs.drop i.toNat) (N1:=N1++M++N2) (ts:=[]) (vs:=[]) (xs:=[]) (N:=[]) p0 (by rw[AM.ax];exact pl) z3 (by rw[hlen];exact z1) z2 z4 (λy hy=> ?_) (by
       rw[hlen,<-z5];intro u hu;rcases Ae.1 hu with hu|hu
       ·rcases Ae.1 hu with hu|hu
        ·exact VI u (BD hu)
        ·exact q6 u hu
       ·exact VI u (BR hu)) (by rw[hlen,AM.ax];exact Ck) .nil
      ·rw[hlen]at this;simpa using this
      ·rcases Ae.1 hy with hy|hy
       ·rcases Ae.1 hy with hy|hy
        ·exact oF y (BD hy)
        ·exact q5 y hy
       ·exact oF y (BR hy)
     have Co:∀b∈N1++M++N2,b∈(own++(N1++N2))++(vb::M):=λb hb=>by simp only[Ae,Ag]at hb ⊢;rcases hb with(hb|hb)|hb<;>simp[hb]
     have ME:(N1++M++N2).Nodup:=by
      have h1:((N1++N2)++M).Nodup:=((List.nodup_append.1 GM).1.sublist (List.sublist_append_right _ _)|>λa=>List.nodup_append.2 ⟨a,((List.nodup_append.1 GM).2.1).sublist (List.sublist_cons_self _ _),λp hp q hq=>(List.nodup_append.1 GM).2.2 p (List.mem_append_right _ hp) q (List.mem_cons_of_mem _ hq)⟩)
      exact(List.Perm.nodup_iff (by rw[List.append_assoc,List.append_assoc];exact List.Perm.append_left _ List.perm_append_comm)).1 h1
     have hgn:g∉N1++M++N2:=by
      intro Dl;rcases Ey with hg|hg
      ·simp only[Ae]at Dl;rcases Dl with(Dl|Dl)|Dl
       ·exact nX g (by simp[Dl]) hg
       ·exact hoM g Dl hg
       ·exact nX g (by simp[Dl]) hg
      ·simp only[Ae]at Dl;rcases Dl with(Dl|Dl)|Dl
       ·have:=J6.inb g (by simp[Dl]);omega
       ·have:=q7.inb g Dl;omega
       ·have:=J6.inb g (by simp[Dl]);omega
     refine⟨_,rfl,⟨⟨_,[],[],g::(N1++M++N2),[],[],rfl,?_,?_,?_,?_,by simp⟩,Bg.weaken λb hb=> .inl (by simp[hb])⟩⟩
     ·rw[g5];show DI Tryz.prog w' t s.res _ _ [] _;unfold DI;rw[hr,if_pos g12];refine⟨[.slice (some ⟨g,0,none⟩) (xs.length+ys.length) cap],[.sl (xs.take i.toNat++ys++xs.drop i.toNat)],by rw[g7];simp,?_⟩;rw[g8];have:=CA.deep (P:=Tryz.prog) (t:=t) (ts:=[]) (fl:=[true]) (us:=[]) (ys:=[]) (rf:=[]) (hs:=[]) rfl g9 g10 g11 Bj .nil;simpa using this
     ·rw[g4,Cr,AG,hm];exact .va rfl (.ro rfl (.va rfl .nil))
     ·rw[AG];exact List.nodup_cons.2 ⟨hgn,ME⟩
     ·intro b hb;rw[AG]at hb;rcases Ag.1 hb with rfl|hb
      ·exact⟨by rcases Ey with h|h;exact .inl (by simp[h]);exact .inr h,Di z3⟩
      ·have:=Co b hb;refine⟨.inl (by simpa using this),?_⟩;have AP:b<w.heap.size:=by
        simp only[Ae,Ag]at hb;rcases hb with(hb|hb)|hb
        ·exact J6.inb b (by simp[hb])
        ·exact q7.inb b hb
        ·exact J6.inb b (by simp[hb])
       have:=Bg.size;omega
 ·cases hk
theorem zvx{P:Program}(w:World)(t ty el:TypeId)(i:TypeInfo)(ht:P.underlying t=some (.slice el))(hi:P.info? el=some i)(k:Nat)(hk:i.size=k)(g n cap:Nat)(a:Addr)(m c:Nat)(cur:Array Value)(news:List Value)
  (hg:w.heap[g]?=some (.cells cur el (0,0))) (hl:news.length=m*k) (Dt:∀j u,news[j]?=some u->w.cell? (a.add j)=some u) (h1:∀u∈news,u.oneCell'=true) (BV:n+m<=cap) (H9:n*k+news.length<=cur.size):
  (Builtin.append_ #[t,t] ty #[.slice (some ⟨g,0,none⟩) n cap, .slice (some a) m c]).run P w= .ok (.slice (some ⟨g,0,none⟩) (n+m) cap) (w.setRow g (cur.toList.take (n*k)++news++cur.toList.drop (n*k+news.length)).toArray):=by
 subst hk;have Vm:=run_firstCells_some (P:=P) w i.size m a m c news hl Dt;have FG:=run_storeCells_at P g (n*i.size) el news 0 cur w hg (by simpa using H9) h1;simp only[Nat.add_zero]at FG;simp[Builtin.append_,run_underlying ht,sizeOf,typeInfo,hi,Builtin.lenOf,BV,Vm,Addr.add_lit,FG]
theorem zG5{P:Program}(w:World)(t el ty:TypeId)(z:Value)(ht:P.underlying t=some (.slice el))(hv:∀w,(zeroValue el).run P w= .ok z w)(h1:∀u∈z.cells,u.oneCell'=true)(g o n c:Nat)(cur:Array Value)(hn:0<n)
  (hg:w.heap[g]?=some (.cells cur el (0,0))) (H9:o+n*z.cells.size<=cur.size):
  (Builtin.clear_ #[t] ty #[.slice (some ⟨g,o,none⟩) n c]).run P w= .ok (.tuple #[]) (w.setRow g (cur.toList.take o++(Builtin.zeroCells z.cells n).toList++cur.toList.drop (o+(Builtin.zeroCells z.cells n).toList.length)).toArray):=by
 have FG:=run_storeCells_at P g o el (Builtin.zeroCells z.cells n).toList 0 cur w hg (by simpa[size_zeroCells]using H9) (λu hu=>by
  have hu:u∈Builtin.zeroCells z.cells n:=by simpa using hu
  unfold Builtin.zeroCells at hu;obtain⟨j,hj,rfl⟩:=Array.mem_map.1 hu;have hj:j<n*z.cells.size:=by simpa using hj
  have h0:0<z.cells.size:=by
   rcases Nat.eq_zero_or_pos z.cells.size with h|h
   ·rw[h]at hj;omega
   ·exact h
  rw[getElem!_pos z.cells _ (Nat.mod_lt _ h0)];exact h1 _ (Array.getElem_mem _))
 simp only[Nat.add_zero]at FG;obtain⟨m,rfl⟩:∃m,n=m+1:=⟨n-1,by omega⟩
 simp[Builtin.clear_,run_underlying ht,hv,FG]
theorem zu5{P:Program}{ops:Array Oper}{o:Oper}{a:Act}{w:World}{K:Act->World->Prop}{Q:Exit->Act->World->Prop}{E:Prop}
  (hg:o.guard=none) (s x:Operand) (t:TypeId) (AY:o.op=Op.call {callee:=Callee.builtin Builtin.append,args:= #[s,x],argTypes:= #[t,t]})
  (v u:Value) (hs:a.eval s=v) (hx:a.eval x=u) {v':Value} {w':World} (hr:∀ty,(Builtin.append_ #[t,t] ty #[v,u]).run P w= .ok v' w') (hK:K (a.put o.dst v') w'):
  if Region.wanted o (yielded ops a.tmps)=true then Oper.wp P o a w K Q else E:=by
 have hw:Region.wanted o (yielded ops a.tmps)=true:=by simp[Region.wanted,hg]
 rw[if_pos hw];unfold Oper.wp;simp[execOp,AY,resolve,invoke,builtin,hs,hx,hr,Result.andThen];exact hK
def tA(P:Program)(f:Nat)(el:TypeId)(k:Nat):Prop:=
 ∀(w:World) (n i j g cap:Nat) (C:Array Value) (cs:List Value),Dq w el k g cap C n cs->i<j->j<=n->(∀u∈cs,u.oneCell'=true)->
  Calls P f #[.slice (some ⟨g,0,none⟩) n cap, .int .i64 i, .int .i64 j] w λe w'=> ∃C',e= .returned (.slice (some ⟨g,0,none⟩) (n-(j-i)) cap)/\Dq w' el k g cap C' (n-(j-i)) (cs.take (i*k)++cs.drop (j*k))/\Mod [g] w w'
noncomputable def Ys{α:Type}(xs:List α)(i j:Int):Option (List α):=Ar (0<=i/\i<j/\j<=xs.length) (some (xs.take i.toNat++xs.drop j.toNat))
theorem zKI{f t it el K:Nat}{l:List DT}(hk:sZ Tryz.prog BM f t it el K l=true)(Ci:∀r,HR Tryz.prog BM f r=true)(D3:Lu Tryz.prog f el K){α:Type}{av:α->AV}{xs ys r:List α}{i:Int}(h:Gt xs i ys=some r):
  Cj Tryz.prog BM f [.sl (xs.map av), .int .i64 i, .sl (ys.map av)] (.sl (r.map av)):=by
 obtain⟨⟨h0,h1,h2,h3⟩,h⟩:=F4 h;cases h;have:=zLZ hk Ci D3 (xs.map av) (ys.map av) i h0 (by simpa using h1) (by cases ys with|nil=>simp at h2|cons=>simp) (by simpa using h3);simpa[List.map_append,List.map_take,List.map_drop]using this
theorem pL{P:Program}{w:World}{t el:TypeId}{v:Value}{x:AV}{rf hs:List Nat}(ha:Aq P t=false)(hl:Bc P t=[t])(he:CH P t=some el)(hf:Ch P el=false)(hd:(DJ P t).isNone=true)(h:MY P w t [true] v x rf hs):Dd w el (P.cellsOf el) v x hs rf:=by
 obtain⟨us,ys,h1,h2⟩:=h;rw[ha]at h1;simp only[A7,if_false]at h1;obtain⟨rfl,rfl⟩:=h1;rw[hl]at h2;cases h2 with
 |own q1 q2 q3 q4 q5=>cases q5;rw[he]at q2;cases q2;simpa using q4
 |deep q1 q2 q3 q4=>rw[q4]at hd;cases hd
 |rd q1=>have:=q1 rfl;rw[he]at this;cases this
theorem Dd.n7{w:World}{el K:Nat}{v:Value}{x:AV}{top N:List Nat}(h:Dd w el K v x top N):∃xs cs,x= .sl xs/\0<K/\(∀y∈xs,y.cells.length=K)/\cs.length=xs.length*K/\Rd w cs (Az xs) N/\(∀u∈cs,u.oneCell'=true)/\
  ((xs=[]/\top=[]/\ ∃q,v= .slice q 0 0)\/ ∃g cap C,v= .slice (some ⟨g,0,none⟩) xs.length cap/\Dq w el K g cap C xs.length cs/\top=[g]):=by
 obtain⟨xs,rfl,h2,h3,⟨rfl,⟨a,hv⟩,rfl,rfl⟩|⟨g,cap,C,rfl,h6,h7,h8,h9,rfl,EX,EE⟩⟩:=h
 ·exact⟨[],[],rfl,h3,h2,by simp,by simpa[Az]using Rd.nil,by simp, .inl ⟨rfl,rfl,a,hv⟩⟩
 ·exact⟨xs,_,rfl,h3,h2,(Dq.len ⟨h6,h7,h8,h9,rfl⟩),EE,EX, .inr ⟨g,cap,C,rfl,⟨h6,h7,h8,h9,rfl⟩,rfl⟩⟩
def tC(P:Program)(sg:BY)(f:Nat)(t it el K:Nat):Bool:=
 match P.funcs[f]?,sg f with
 |some fn,some s=>(match s.c8,s.res,s.ft,s.lo with
  | [.va [true], .ro, .va [true]],[true],[],[]=>true
  |_,_,_,_=>false)&&fn.body.isSome&& !(fn.name== "runtime.NumGoroutine")&&fn.params.toList==[t,it,t]&&fn.resultTypes.toList==[t]&&fn.nfree==0&& !Aq P t&&Bc P t==[t]&&CH P t==some el&&(!Ch P el&&(DJ P t).isNone)&&P.cellsOf el==K&&FL P t [true]&&fn.params.size==3
 |_,_=>false
theorem zLQ{f t it el K:Nat}(hk:tC Tryz.prog BM f t it el K=true)(Ci:∀r,HR Tryz.prog BM f r=true)(D3:Lu Tryz.prog f el K)(xs ys:List AV)(i:Int)(h0:0<=i)(h1:i<=xs.length)(hy:ys≠ [])(hb:(xs.length+ys.length)*1000<=140737488355328):
  Cj Tryz.prog BM f [.sl xs, .int .i64 i, .sl ys] (.sl (xs.take i.toNat++ys++xs.drop i.toNat)):=by
 unfold tC at hk;split at hk
 ·rename_i fn s hf hs;simp only[Ac,Bk,Ay]at hk;obtain⟨⟨⟨⟨⟨⟨⟨⟨⟨⟨⟨⟨g1,g2⟩,g3⟩,g4⟩,g5⟩,g6⟩,g7⟩,g8⟩,g9⟩,g10⟩,g11⟩,g12⟩,g13⟩:=hk;obtain⟨hm,hr,Cr,B7⟩:s.c8=[.va [true], .ro, .va [true]]/\s.res=[true]/\s.ft=[]/\s.lo=[]:=by
   split at g1
   ·rename_i a b c d;exact⟨a,b,c,d⟩
   ·cases g1
  unfold Cj;rw[if_pos (Ks f s hs)];refine⟨s,hs,fn,hf,g2,g3,by have:=Ci (xs.take i.toNat++ys++xs.drop i.toNat);unfold HR at this;rw[hf,hs]at this;exact this,by simp[g6,g13],by simp[Cr],λw vs rf lf A9 Aj hd _ Cb D5=> ?_⟩;rw[g4,Cr,AG,hm,B7]at Aj;cases Aj with
  |lent h _ _ _=>cases h
  | @cons _ _ _ _ v1 vs1 _ _ f1 k1 rf1 lf1 BO a1 Aj=>
   cases Aj with
   |lent h _ _ _=>cases h
   | @cons _ _ _ _ v2 vs2 _ _ f2 k2 rf2 lf2 Bd a2 Aj=>
    cases Aj with
    |lent h _ _ _=>cases h
    | @cons _ _ _ _ v3 vs3 _ _ f3 k3 rf3 lf3 Hp a3 Aj=>
     cases Aj;have r1:=pL g7 g8 g9 g10.1 g10.2 a1;have r3:=pL g7 g8 g9 g10.1 g10.2 a3;obtain⟨a2,rfl⟩:Rd w [v2] [AV.int .i64 i] f2/\k2=[]:=a2;obtain⟨us,rfl2,hI,a2⟩:=Pd a2;obtain⟨rfl,rfl⟩:=Kn a2;cases rfl2;obtain⟨xs',cs,e1,p0,p1,p2,p3,p4,p5⟩:=r1.n7;cases e1;obtain⟨ys',cv,e2,_,q1,q2,q3,q4,q5⟩:=r3.n7;cases e2;rw[g11]at p0 p1 p2 p5 q1 q2 q5;obtain⟨vb,vc,VC,rfl,hv,rfl⟩:∃g cap C,v3= .slice (some ⟨g,0,none⟩) ys.length cap/\Dq w el K g cap C ys.length cv/\k3=[g]:=by
      rcases q5 with⟨h,_⟩|h
      ·exact absurd h hy
      ·exact h
     have nT:k1++ [vb]=k1++([]++([vb]++ [])):=by simp
     have IS:∀g∈k1,vb≠g:=by intro g hg e;subst e;have:=(List.nodup_append.1 Cb).2.2 vb hg vb (by simp);exact this rfl
     have V3:0<ys.length:=by cases ys with|nil=>exact absurd rfl hy|cons=>simp
     have hc:=D3 w v1 xs.length i.toNat cs k1 vb vc ys.length VC cv p2 (by
      rcases p5 with⟨rfl,_,q,rfl⟩|⟨g,cap,C,rfl,h,rfl⟩
      ·exact .inl ⟨rfl,q,rfl⟩
      ·exact .inr ⟨g,cap,C,rfl,h,by simp⟩) (by omega) hv IS V3 hb q4 p4
     rw[show((i.toNat:Nat):Int)=i by omega]at hc;refine hc.mono ?_;rintro e w' ⟨u,rfl,g,cap,C,rfl,⟨z1,z2,z3,z4,z5⟩,Bg,Ey⟩;have CL:∀b∈f1,b<w.heap.size/\b∉k1:=λb hb=>⟨p3.inb b hb,λh=>hd b (by simp[h]) (by simp[hb])⟩
     have Il:∀b∈f3,b<w.heap.size/\b∉k1:=λb hb=>⟨q3.inb b hb,λh=>hd b (by simp[h]) (by simp[hb])⟩
     obtain⟨t1,t2⟩:=QR p1 (i:=i.toNat) (by omega);have hmul:=Bz K (show i.toNat<=xs.length by omega);obtain⟨na,ma,ca⟩:=p3.piece 0 (i.toNat*K);obtain⟨nb,mb,cb⟩:=p3.piece (i.toNat*K) (cs.length-i.toNat*K);rw[List.drop_zero,List.drop_zero]at ca;rw[List.take_of_length_le (by simp),List.take_of_length_le (by rw[Bn,Lf _ p1,p2];exact AB _)]at cb;have DX:Rd w' (cs.take (i.toNat*K)++cv++cs.drop (i.toNat*K)) (Az (xs.take i.toNat++ys++xs.drop i.toNat)) (na++f3++nb):=by rw[OY,OY,t1,t2];exact((ca.frame λb hb=>Bg.block b (CL b (ma b hb)).1 (CL b (ma b hb)).2).app (q3.frame λb hb=>Bg.block b (Il b hb).1 (Il b hb).2)).app (cb.frame λb hb=>Bg.block b (CL b (mb b hb)).1 (CL b (mb b hb)).2)
     have hlen:(xs.take i.toNat++ys++xs.drop i.toNat).length=xs.length+ys.length:=by simp only[Av,AE,Bn];omega
     have Bj:Dd w' el K (.slice (some ⟨g,0,none⟩) (xs.length+ys.length) cap) (.sl (xs.take i.toNat++ys++xs.drop i.toNat)) [g] (na++f3++nb):=by
      refine⟨_,rfl,λy hy=> ?_,p0, .inr ⟨g,cap,C,by rw[hlen],by rw[hlen];exact z1,z2,z3,z4,rfl,?_,?_⟩⟩
      ·rcases Ae.1 hy with hy|hy
       ·rcases Ae.1 hy with hy|hy
        ·exact p1 y (BD hy)
        ·exact q1 y hy
       ·exact p1 y (BR hy)
      ·rw[hlen,<-z5];intro u hu;rcases Ae.1 hu with hu|hu
       ·rcases Ae.1 hu with hu|hu
        ·exact p4 u (BD hu)
        ·exact q4 u hu
       ·exact p4 u (BR hu)
      ·rw[hlen,<-z5];exact DX
     refine⟨_,rfl,⟨⟨_,[],na++f3++nb,[g],[],[],rfl,?_,?_,by simp,?_,?_⟩,Bg.weaken λb hb=> .inl (by simp[hb])⟩⟩
     ·rw[g5];show DI Tryz.prog w' t s.res _ _ _ [g];unfold DI;rw[hr,if_pos g12];refine⟨[.slice (some ⟨g,0,none⟩) (xs.length+ys.length) cap],[.sl (xs.take i.toNat++ys++xs.drop i.toNat)],by rw[g7];simp,?_⟩;rw[g8];have:=CA.own (P:=Tryz.prog) (t:=t) (ts:=[]) (fl:=[true]) (us:=[]) (ys:=[]) (rf:=[]) (hs:=[]) rfl g9 (.inr ⟨g10.1,by simpa using g10.2⟩) (by rw[g11];exact Bj) .nil;simpa using this
     ·rw[g4,Cr,AG,hm];exact .va rfl (.ro rfl (.va rfl .nil))
     ·intro b hb;simp only[AG,List.mem_singleton]at hb;subst hb;exact⟨by rcases Ey with h|h;exact .inl (by simp[h]);exact .inr h,Di z3⟩
     ·intro b hb;rw[AG]at hb;have Cc:b∈f1\/b∈f3:=by
       simp only[Ae]at hb;rcases hb with(hb|hb)|hb
       ·exact .inl (ma b hb)
       ·exact .inr hb
       ·exact .inl (mb b hb)
      have A9:b<w.heap.size/\b∉k1:=Cc.elim (CL b) (Il b);refine⟨λh=> ?_, .inl (by rcases Cc with h|h<;>simp[h])⟩;simp only[AG,List.mem_singleton]at h;subst h;rcases Ey with h|h
      ·exact A9.2 h
      ·omega
 ·cases hk
def sU(P:Program)(sg:BY)(f:Nat)(t it el K:Nat):Bool:=
 match P.funcs[f]?,sg f with
 |some fn,some s=>(match s.c8,s.res,s.ft,s.lo with
  | [.va [true], .ro, .ro],[true],[],[]=>true
  |_,_,_,_=>false)&&fn.body.isSome&& !(fn.name== "runtime.NumGoroutine")&&fn.params.toList==[t,it,it]&&fn.resultTypes.toList==[t]&&fn.nfree==0&& !Aq P t&&Bc P t==[t]&&CH P t==some el&&(!Ch P el&&(DJ P t).isNone)&&P.cellsOf el==K&&FL P t [true]&&fn.params.size==3
 |_,_=>false
theorem zLS{f t it el K:Nat}(hk:sU Tryz.prog BM f t it el K=true)(Ci:∀r,HR Tryz.prog BM f r=true)(KH:tA Tryz.prog f el K)(xs:List AV)(i j:Int)(h0:0<=i)(h1:i<j)(h2:j<=xs.length):
  Cj Tryz.prog BM f [.sl xs, .int .i64 i, .int .i64 j] (.sl (xs.take i.toNat++xs.drop j.toNat)):=by
 unfold sU at hk;split at hk
 ·rename_i fn s hf hs;simp only[Ac,Bk,Ay]at hk;obtain⟨⟨⟨⟨⟨⟨⟨⟨⟨⟨⟨⟨g1,g2⟩,g3⟩,g4⟩,g5⟩,g6⟩,g7⟩,g8⟩,g9⟩,g10⟩,g11⟩,g12⟩,g13⟩:=hk;obtain⟨hm,hr,Cr,B7⟩:s.c8=[.va [true], .ro, .ro]/\s.res=[true]/\s.ft=[]/\s.lo=[]:=by
   split at g1
   ·rename_i a b c d;exact⟨a,b,c,d⟩
   ·cases g1
  unfold Cj;rw[if_pos (Ks f s hs)];refine⟨s,hs,fn,hf,g2,g3,by have:=Ci (xs.take i.toNat++xs.drop j.toNat);unfold HR at this;rw[hf,hs]at this;exact this,by simp[g6,g13],by simp[Cr],λw vs rf lf A9 Aj hd _ Cb D5=> ?_⟩;rw[g4,Cr,AG,hm,B7]at Aj;cases Aj with
  |lent h _ _ _=>cases h
  | @cons _ _ _ _ v1 vs1 _ _ f1 k1 rf1 lf1 BO a1 Aj=>
   cases Aj with
   |lent h _ _ _=>cases h
   | @cons _ _ _ _ v2 vs2 _ _ f2 k2 rf2 lf2 Bd a2 Aj=>
    cases Aj with
    |lent h _ _ _=>cases h
    | @cons _ _ _ _ v3 vs3 _ _ f3 k3 rf3 lf3 Hp a3 Aj=>
     cases Aj;have r1:=pL g7 g8 g9 g10.1 g10.2 a1;obtain⟨a2,rfl⟩:Rd w [v2] [AV.int .i64 i] f2/\k2=[]:=a2;obtain⟨us,rfl2,hI,a2⟩:=Pd a2;obtain⟨rfl,rfl⟩:=Kn a2;cases rfl2;obtain⟨a3,rfl⟩:Rd w [v3] [AV.int .i64 j] f3/\k3=[]:=a3;obtain⟨us,rfl3,hJ,a3⟩:=Pd a3;obtain⟨rfl,rfl⟩:=Kn a3;cases rfl3;obtain⟨xs',cs,e1,p0,p1,p2,p3,p4,p5⟩:=r1.n7;cases e1;rw[g11]at p0 p1 p2 p5;rcases p5 with⟨rfl,_⟩|⟨g,cap,C,rfl,hR,rfl⟩
     ·simp at h2;omega
     have hc:=KH w xs.length i.toNat j.toNat g cap C _ hR (by omega) (by omega) p4;rw[show((i.toNat:Nat):Int)=i by omega,show((j.toNat:Nat):Int)=j by omega]at hc;refine hc.mono ?_;rintro e w' ⟨C',rfl,⟨z1,z2,z3,z4,z5⟩,Bg⟩;have CL:∀b∈f1,b<w.heap.size/\b∉ [g]:=λb hb=>⟨p3.inb b hb,λh=>hd b (by simp at h;simp[h]) (by simp[hb])⟩
     obtain⟨t1,_⟩:=QR p1 (i:=i.toNat) (by omega);obtain⟨_,t2⟩:=QR p1 (i:=j.toNat) (by omega);obtain⟨na,ma,ca⟩:=p3.piece 0 (i.toNat*K);obtain⟨nb,mb,cb⟩:=p3.piece (j.toNat*K) (cs.length-j.toNat*K);rw[List.drop_zero,List.drop_zero]at ca;rw[List.take_of_length_le (by simp),List.take_of_length_le (by rw[Bn,Lf _ p1,p2];exact AB _)]at cb;have DX:Rd w' (cs.take (i.toNat*K)++cs.drop (j.toNat*K)) (Az (xs.take i.toNat++xs.drop j.toNat)) (na++nb):=by rw[OY,t1,t2];exact(ca.frame λb hb=>Bg.block b (CL b (ma b hb)).1 (CL b (ma b hb)).2).app (cb.frame λb hb=>Bg.block b (CL b (mb b hb)).1 (CL b (mb b hb)).2)
     have hlen:(xs.take i.toNat++xs.drop j.toNat).length=xs.length-(j.toNat-i.toNat):=by simp only[Av,AE,Bn];omega
     have Bj:Dd w' el K (.slice (some ⟨g,0,none⟩) (xs.length-(j.toNat-i.toNat)) cap) (.sl (xs.take i.toNat++xs.drop j.toNat)) [g] (na++nb):=by
      refine⟨_,rfl,λy hy=> ?_,p0, .inr ⟨g,cap,_,by rw[hlen],by rw[hlen];exact z1,z2,z3,z4,rfl,?_,?_⟩⟩
      ·rcases Ae.1 hy with hy|hy
       ·exact p1 y (BD hy)
       ·exact p1 y (BR hy)
      ·rw[hlen,<-z5];intro u hu;rcases Ae.1 hu with hu|hu
       ·exact p4 u (BD hu)
       ·exact p4 u (BR hu)
      ·rw[hlen,<-z5];exact DX
     refine⟨_,rfl,⟨⟨_,[],na++nb,[g],[],[],rfl,?_,?_,by simp,?_,?_⟩,Bg.weaken λb hb=> .inl (by simp at hb;simp[hb])⟩⟩
     ·rw[g5];show DI Tryz.prog w' t s.res _ _ _ _;unfold DI;rw[hr,if_pos g12];refine⟨[.slice (some ⟨g,0,none⟩) (xs.length-(j.toNat-i.toNat)) cap],[.sl (xs.take i.toNat++xs.drop j.toNat)],by rw[g7];simp,?_⟩;rw[g8];have:=CA.own (P:=Tryz.prog) (t:=t) (ts:=[]) (fl:=[true]) (us:=[]) (ys:=[]) (rf:=[]) (hs:=[]) rfl g9 (.inr ⟨g10.1,by simpa using g10.2⟩) (by rw[g11];exact Bj) .nil;simpa using this
     ·rw[g4,Cr,AG,hm];exact .va rfl (.ro rfl (.ro rfl .nil))
     ·intro b hb;simp only[AG,List.mem_singleton]at hb;subst hb;exact⟨.inl (by simp),Di z3⟩
     ·intro b hb;rw[AG]at hb;have Cc:b∈f1:=by
       rcases Ae.1 hb with hb|hb
       ·exact ma b hb
       ·exact mb b hb
      exact⟨by simpa using(CL b Cc).2, .inl (by simp[Cc])⟩
 ·cases hk
theorem zLL{f t it el K:Nat}(hk:sU Tryz.prog BM f t it el K=true)(Ci:∀r,HR Tryz.prog BM f r=true)(KH:tA Tryz.prog f el K){α:Type}{av:α->AV}{xs r:List α}{i j:Int}(h:Ys xs i j=some r):
  Cj Tryz.prog BM f [.sl (xs.map av), .int .i64 i, .int .i64 j] (.sl (r.map av)):=by
 obtain⟨⟨h0,h1,h2⟩,h⟩:=F4 h;cases h;have:=zLS hk Ci KH (xs.map av) i j h0 h1 (by simpa using h2);simpa[List.map_append,List.map_take,List.map_drop]using this
theorem zK2{f t it el K:Nat}(hk:tC Tryz.prog BM f t it el K=true)(Ci:∀r,HR Tryz.prog BM f r=true)(D3:Lu Tryz.prog f el K){α:Type}{av:α->AV}{xs ys r:List α}{i:Int}(h:Gt xs i ys=some r):
  Cj Tryz.prog BM f [.sl (xs.map av), .int .i64 i, .sl (ys.map av)] (.sl (r.map av)):=by
 obtain⟨⟨h0,h1,h2,h3⟩,h⟩:=F4 h;cases h;have:=zLQ hk Ci D3 (xs.map av) (ys.map av) i h0 (by simpa using h1) (by cases ys with|nil=>simp at h2|cons=>simp) (by simpa using h3);simpa[List.map_append,List.map_take,List.map_drop]using this
class HU(P:Program)(el K:Nat)(st it ov:outParam Nat):Prop where
 u:P.underlying st=some (.slice el)
 v:P.underlying it=some (.int .i64)
 i:∃i z,P.info? el=some i/\i.size=K/\i.zero=some z/\z.cells.size=K/\i.bytes<=1000/\0<K
 o:∃fn bt,P.funcs[ov]?=some fn/\(fn.name== "runtime.NumGoroutine")=false/\fn.body.isNone=true/\Extern.findNext fn=none/\Extern.find fn=some (Extern.SlicesOverlaps.overlaps #[st,st] #[bt])
def zMM(P:Program)(el K:Nat):Bool:=match P.info? el with
 |some i=>(match i.zero with|some z=>i.size==K&&z.cells.size==K&&decide (i.bytes<=1000)&&decide (0<K)|none=>false)
 |none=>false
theorem ZR{P:Program}{el K:Nat}(h:zMM P el K=true):∃i z,P.info? el=some i/\i.size=K/\i.zero=some z/\z.cells.size=K/\i.bytes<=1000/\0<K:=by
 unfold zMM at h;split at h
 ·rename_i i hi;split at h
  ·rename_i z hz;simp only[Ac,Ay,AR]at h;exact⟨i,z,hi,h.1.1.1,hz,h.1.1.2,h.1.2,h.2⟩
  ·cases h
 ·cases h
def WH(P:Program)(f el K:Nat):Prop:= ∀(w:World) (v:Value) (n:Nat) (cs:List Value) (own:List Nat) (vb vc m:Nat) (VC:Array Value) (vs:List Value),cs.length=n*K->
 ((n=0/\ ∃q,v= .slice q 0 0)\/ ∃g cap C,v= .slice (some ⟨g,0,none⟩) n cap/\Dq w el K g cap C n cs/\g∈own)->Dq w el K vb vc VC m vs->0<m->(n+m)*1000<=140737488355328->(∀u∈vs,u.oneCell'=true)->
 Calls P f #[v, .int .i64 n, .slice (some ⟨vb,0,none⟩) m vc] w λe w'=> ∃u,e= .returned u/\Qo w w' el K own u (n+m) (cs++vs)
def WI(P:Program)(f el K:Nat):Prop:= ∀(w:World) (n i g cap:Nat) (C:Array Value) (cs:List Value) (own:List Nat) (vb vc m:Nat) (VC:Array Value) (vs:List Value),Dq w el K g cap C n cs->i<n->cap<n+m->Dq w el K vb vc VC m vs->0<m->(n+m)*1000<=140737488355328->
 (∀u∈vs,u.oneCell'=true)->(∀u∈cs,u.oneCell'=true)->
 Calls P f #[.slice (some ⟨g,0,none⟩) n cap, .int .i64 i, .slice (some ⟨vb,0,none⟩) m vc] w λe w'=> ∃u,e= .returned u/\Qo w w' el K own u (n+m) (cs.take (i*K)++vs++cs.drop (i*K))
def WM(P:Program)(f el K:Nat):Prop:= ∀(w:World) (n i g cap:Nat) (C:Array Value) (cs:List Value) (own:List Nat) (vb vc m:Nat) (VC:Array Value) (vs:List Value),Dq w el K g cap C n cs->g∈own->i<n->n+m<=cap->vb≠g->Dq w el K vb vc VC m vs->0<m->
 (∀u∈vs,u.oneCell'=true)->(∀u∈cs,u.oneCell'=true)->
 Calls P f #[.slice (some ⟨g,0,none⟩) n cap, .int .i64 i, .slice (some ⟨vb,0,none⟩) m vc] w λe w'=> ∃u,e= .returned u/\Qo w w' el K own u (n+m) (cs.take (i*K)++vs++cs.drop (i*K))
theorem lF{P:Program}{f el K:Nat}(h1:WH P f el K)(h2:WI P f el K)(h3:WM P f el K):Lu P f el K:=by
 intro w v n i cs own vb vc m VC vs AD A2 Cs hv Ru hm hb Hh Hg;by_cases he:i=n
 ·subst he;refine(h1 w v i cs own vb vc m VC vs AD A2 hv hm hb Hh).mono ?_;rintro e w' ⟨u,rfl,h⟩;refine⟨u,rfl,?_⟩;rw[List.take_of_length_le (by omega),List.drop_eq_nil_of_le (by omega),AG];exact h
 ·rcases A2 with⟨rfl,_⟩|⟨g,cap,C,rfl,hr,hg⟩
  ·omega
  ·by_cases hc:n+m<=cap
   ·exact h3 w n i g cap C cs own vb vc m VC vs hr hg (by omega) hc (Ru g hg) hv hm Hh Hg
   ·exact h2 w n i g cap C cs own vb vc m VC vs hr (by omega) (by omega) hv hm hb Hh Hg
theorem zLJ{P:Program}{el K st it ov:Nat}[hI:HU P el K st it ov]{w:World}{v:Value}{n:Nat}{cs:List Value}{own:List Nat}{vb vc m:Nat}{VC:Array Value}{vs:List Value}(AD:cs.length=n*K)
  (A2:(n=0/\ ∃q,v= .slice q 0 0)\/ ∃g cap C,v= .slice (some ⟨g,0,none⟩) n cap/\Dq w el K g cap C n cs/\g∈own) (hv:Dq w el K vb vc VC m vs) (hm:0<m) (hb:(n+m)*1000<=140737488355328) (Hh:∀u∈vs,u.oneCell'=true):
  ∃v' w1,(Builtin.append_ #[st,st] st #[v, .slice (some ⟨vb,0,none⟩) m vc]).run P w= .ok v' w1/\Qo w w1 el K own v' (n+m) (cs++vs):=by
 obtain⟨i0,z0,hi,hs,hz,DA,FD,hK⟩:=hI.i;have Dx:Src w i0.size (some ⟨vb,0,none⟩) m vs:= .inr ⟨_,rfl,by rw[hs];exact hv.len,λj u hj=>hv.cell 0 j u (by simpa using hj),Hh⟩;obtain⟨v',w1,hr,A1⟩:=Un (P:=P) w st st el i0 z0 hI.u hi hz (by rw[DA,hs]) (by omega) (λb=>b∈own) v n cs (by rw[hs];exact AD)
  (by
   rcases A2 with h|⟨g,cap,C,rfl,⟨h1,h2,h3,h4,h5⟩,h6⟩
   ·exact .inl h
   ·exact .inr ⟨g,cap,C,rfl,h1,h2,h3,by rw[hs];exact h4,by rw[hs];exact h5,h6⟩)
  (some ⟨vb,0,none⟩) m vc vs Dx (by simp only[maxLen];omega) (by have:=Nat.mul_le_mul_left (n+m) FD;omega)
 refine⟨v',w1,hr,?_⟩;rcases A1 with⟨_,_,h⟩|⟨g,cap,C,rfl,h1,h2,h3,h4,h5,h6,h7⟩
 ·omega
 ·refine⟨g,cap,C,rfl,⟨h1,h2,h3,by rw[hs]at h4;exact h4,by rw[hs]at h5;exact h5.symm⟩,?_,h7.symm.imp id λh=>by omega⟩;refine⟨h6.os,h6.tape,h6.output,h6.size,λb hb hn=>h6.block b hb λe=> ?_⟩;cases e;rcases h7 with h7|h7
  ·omega
  ·exact hn h7
theorem zLv{P:Program}{el K st it ov:Nat}[hI:HU P el K st it ov]{w:World}{n i g cap:Nat}{C:Array Value}{cs:List Value}(own:List Nat){vb vc m:Nat}{VC:Array Value}{vs:List Value}(A2:Dq w el K g cap C n cs)(Cs:i<n)(BV:cap<n+m)
  (hv:Dq w el K vb vc VC m vs) (hm:0<m) (hb:(n+m)*1000<=140737488355328) (Hh:∀u∈vs,u.oneCell'=true) (Hg:∀u∈cs,u.oneCell'=true):
  ∃(G:Nat) (ROW ROW2 ROW3:Array Value),n+m<=G/\G<=9223372036854775807/\
   (∀ty,(Builtin.append_ #[st,it] ty #[.slice (some ⟨g,0,none⟩) i cap, .int .i64 ((n:Int)+(m:Int)-(i:Int))]).run P w= .ok (.slice (some ⟨w.heap.size,0,none⟩) (n+m) G) (w.drew.alloc (.cells ROW el)))/\
   (∀(W:World),W.heap=(w.alloc (.cells ROW el)).heap-> ∀ty dc,(Builtin.copy_ #[st,st] ty #[.slice (some ⟨w.heap.size,i*K,none⟩) (n+m-i) dc, .slice (some ⟨vb,0,none⟩) m vc]).run P W= .ok (goInt m) (W.setRow w.heap.size ROW2))/\
   (∀(W:World),W.heap=((w.alloc (.cells ROW el)).setRow w.heap.size ROW2).heap-> ∀ty dc sc,(Builtin.copy_ #[st,st] ty #[.slice (some ⟨w.heap.size,(i+m)*K,none⟩) (n+m-(i+m)) dc, .slice (some ⟨g,i*K,none⟩) (n-i) sc]).run P W= .ok (goInt ((n-i:Nat):Int)) (W.setRow w.heap.size ROW3))/\
   (∀W:World,W.os=w.os->W.tape=w.tape->W.output=w.output->W.heap=(((w.alloc (.cells ROW el)).setRow w.heap.size ROW2).setRow w.heap.size ROW3).heap->Qo w W el K own (.slice (some ⟨w.heap.size,0,none⟩) (n+m) G) (n+m) (cs.take (i*K)++vs++cs.drop (i*K)))/\
   ((w.alloc (.cells ROW el)).drew).heap=(w.alloc (.cells ROW el)).heap/\(((w.alloc (.cells ROW el)).drew.setRow w.heap.size ROW2).drew).heap=((w.alloc (.cells ROW el)).setRow w.heap.size ROW2).heap:=by
 obtain⟨i0,z0,hi,hs,hz,DA,FD,hK⟩:=hI.i;have AD:=A2.len;have EM:=hv.len;have Vb:=A2;obtain⟨MD,Gk,hg,KC,BE⟩:=Vb;have KN:g<w.heap.size:=Di hg;have hvw:vb<w.heap.size:=Di hv.2.2.1;have BJ:(P.info? el).map (·.size)=some K:=by rw[hi];simp[hs]
 have hik:i+(n+m-i)=n+m:=by omega
 have Y5:(n+m)*i0.bytes<=140737488355328:=Nat.le_trans (Nat.mul_le_mul_left _ FD) hb;have J5:(n+m-i)*i0.bytes<=140737488355328:=Nat.le_trans (Bz _ (by omega)) Y5;have nC:i*K<=n*K:=Bz _ (by omega);have hold:(Builtin.firstCells i0.size i (.slice (some ⟨g,0,none⟩) i cap)).run P w.drew= .ok (cs.take (i*K)).toArray w.drew:=by
  rw[hs];exact run_firstCells_some w.drew K i ⟨g,0,none⟩ i cap (cs.take (i*K)) (by rw[AE];omega) (λj v hj=>by
   rw[List.getElem?_take]at hj;split at hj
   ·exact A2.cell 0 j v (by simpa using hj)
   ·cases hj)
 have Rr:∀ty,(Builtin.append_ #[st,it] ty #[.slice (some ⟨g,0,none⟩) i cap, .int .i64 ((n:Int)+(m:Int)-(i:Int))]).run P w=
   .ok (.slice (some ⟨w.heap.size,0,none⟩) (n+m) (grownCap w (n+m) cap el)) (w.drew.alloc (.cells ((cs.take (i*K)).toArray++Builtin.zeroCells z0.cells (n+m-i)++Builtin.zeroCells z0.cells (grownCap w (n+m) cap el-(n+m))) el)):=λty=>by
  have h:=Lib.run_append_grow_zeros w st it ty el i0 z0 .i64 .i64 hI.u hI.v hi hz (some ⟨g,0,none⟩) i cap (cs.take (i*K)) hold (n+m-i) (by omega) (by omega) (by omega) (by omega) (by omega) (by rw[hik];exact growslice_fits BV Y5);rw[hik]at h;rw[show(n:Int)+(m:Int)-(i:Int)=((n+m-i:Nat):Int) by omega];exact h
 obtain⟨G,hG⟩:∃G,G=grownCap w (n+m) cap el:=⟨_,rfl⟩
 obtain⟨ROW,Pp⟩:∃ROW:Array Value,ROW=(cs.take (i*K)).toArray++Builtin.zeroCells z0.cells (n+m-i)++Builtin.zeroCells z0.cells (G-(n+m)):=⟨_,rfl⟩
 have YZ:n+m<=G:=by rw[hG];exact grownCap_ge w _ _ _
 have UU:G<=maxLen:=by rw[hG];exact grownCap_le_maxLen w (n+m) cap el (by unfold maxLen;omega)
 rw[<-hG]at Rr;rw[<-Pp]at Rr;have e1:(i+m)*K=i*K+m*K:=Nat.add_mul ..;have e2:(n+m)*K=n*K+m*K:=Nat.add_mul ..;have e3:(n+m-i)*K=n*K+m*K-i*K:=by rw[Nat.sub_mul,e2]
 have e4:(n-i)*K=n*K-i*K:=Nat.sub_mul ..;have e5:(G-(n+m))*K=G*K-(n*K+m*K):=by rw[Nat.sub_mul,e2]
 have e6:n*K+m*K<=G*K:=by rw[<-e2];exact Bz _ YZ
 have hRs:ROW.size=G*K:=by rw[Pp];simp only[Array.size_append,List.size_toArray,AE,size_zeroCells,DA];omega
 obtain⟨ROW2,UZ⟩:∃R:Array Value,R=(ROW.toList.take (i*K)++vs++ROW.toList.drop (i*K+vs.length)).toArray:=⟨_,rfl⟩
 obtain⟨ROW3,lV⟩:∃R:Array Value,R=(ROW2.toList.take ((i+m)*K)++cs.drop (i*K)++ROW2.toList.drop ((i+m)*K+(cs.drop (i*K)).length)).toArray:=⟨_,rfl⟩
 have lU:ROW2.size=G*K:=by rw[UZ];simp only[List.size_toArray,Av,AE,Bn,BF];omega
 have lW:ROW3.size=G*K:=by rw[lV];simp only[List.size_toArray,Av,AE,Bn,BF];omega
 obtain⟨N,hN⟩:∃N,N=w.heap.size:=⟨_,rfl⟩
 have hA:(w.alloc (.cells ROW el)).heap[N]?=some (.cells ROW el (0,0)):=by rw[hN];exact heap_alloc_new w _
 have hO:∀k,k<N->(w.alloc (.cells ROW el)).heap[k]?=w.heap[k]?:=λk hk=>Below.heap_alloc w _ k (by omega);have hB:((w.alloc (.cells ROW el)).setRow N ROW2).heap[N]?=some (.cells ROW2 el (0,0)):=setRow_heap _ _ _ _ _ _ hA;have hO2:∀k,k<N->((w.alloc (.cells ROW el)).setRow N ROW2).heap[k]?=w.heap[k]?:=λk hk=>by rw[setRow_other _ _ _ _ (by omega)];exact hO k hk
 rw[<-hN]at Rr ⊢;refine⟨G,ROW,ROW2,ROW3,YZ,UU,Rr,λW hW ty dc=> ?_,λW hW ty dc sc=> ?_,λW w1 w2 w3 hW=> ?_,rfl,rfl⟩
 ·have h:=gZ (P:=P) W st st ty el K N (i*K) (n+m-i) dc ⟨vb,0,none⟩ m vc ROW el vs hI.u BJ (by rw[hW];exact hA) (by rw[EM,show Nat.min m (n+m-i)=m from Nat.min_eq_left (by omega)])
   (λj v hj=>by rw[World.cell?_of_block (w:=w) (by rw[Addr.add_lit,hW];exact hO vb (by omega))];exact hv.cell 0 j v (by simpa using hj)) (by rw[hRs,EM];omega) Hh
  rw[show Nat.min m (n+m-i)=m from Nat.min_eq_left (by omega),<-UZ]at h;exact h
 ·have h:=gZ (P:=P) W st st ty el K N ((i+m)*K) (n+m-(i+m)) dc ⟨g,i*K,none⟩ (n-i) sc ROW2 el (cs.drop (i*K)) hI.u BJ (by rw[hW];exact hB) (by rw[Bn,AD,show Nat.min (n-i) (n+m-(i+m))=n-i from Nat.min_eq_left (by omega)];omega)
   (λj v hj=>by rw[World.cell?_of_block (w:=w) (by rw[Addr.add_lit,hW];exact hO2 g (by omega))];exact A2.cell (i*K) j v hj) (by rw[lU,Bn,AD];omega) (λv hv=>Hg v (BR hv))
  rw[show Nat.min (n-i) (n+m-(i+m))=n-i from Nat.min_eq_left (by omega),<-lV]at h;exact h
 ·refine⟨N,G,ROW3,rfl,⟨YZ,UU,by rw[hW];exact setRow_heap _ _ _ _ _ _ hB,lW,?_⟩,⟨w1,w2,w3,by rw[hW];simp,λk hk _=>by rw[hW,setRow_other _ _ _ _ (by omega)];exact hO2 k (by omega)⟩, .inr (by omega)⟩;have h:=two ((Builtin.zeroCells z0.cells (n+m-i)).toList++(Builtin.zeroCells z0.cells (G-(n+m))).toList) cs vs (i*K) (m*K) (n*K) ROW.toList (by rw[Pp];simp) AD nC EM (by simp only[Av,BF,size_zeroCells,DA];omega);rw[lV,UZ,Nat.add_mul n m,Nat.add_mul i m];exact h.symm
theorem zMA{P:Program}{el K st it ov:Nat}[hI:HU P el K st it ov]{w:World}{n i g cap:Nat}{C:Array Value}{cs:List Value}{own:List Nat}{vb vc m:Nat}{VC:Array Value}{vs:List Value}(A2:Dq w el K g cap C n cs)(Ey:g∈own)(Cs:i<n)(BV:n+m<=cap)(Ru:vb≠g)
  (hv:Dq w el K vb vc VC m vs) (hm:0<m) (Hh:∀u∈vs,u.oneCell'=true) (Hg:∀u∈cs,u.oneCell'=true):
  ∃C1 C2:Array Value,(∀lb cb,(callFunc ov #[.slice (some ⟨vb,0,none⟩) m vc, .slice (some ⟨g,(i+m)*K,none⟩) lb cb]).run P w= .ok (.value (.bool false)) w)/\
   (∀(W:World),W.heap=w.heap-> ∀ty dc sc,(Builtin.copy_ #[st,st] ty #[.slice (some ⟨g,(i+m)*K,none⟩) (n+m-(i+m)) dc, .slice (some ⟨g,i*K,none⟩) (n+m-i) sc]).run P W= .ok (goInt ((n-i:Nat):Int)) (W.setRow g C1))/\
   (∀(W:World),W.heap=(w.setRow g C1).heap-> ∀ty dc,(Builtin.copy_ #[st,st] ty #[.slice (some ⟨g,i*K,none⟩) (n+m-i) dc, .slice (some ⟨vb,0,none⟩) m vc]).run P W= .ok (goInt m) (W.setRow g C2))/\
   (∀W:World,W.os=w.os->W.tape=w.tape->W.output=w.output->W.heap=((w.setRow g C1).setRow g C2).heap->Qo w W el K own (.slice (some ⟨g,0,none⟩) (n+m) cap) (n+m) (cs.take (i*K)++vs++cs.drop (i*K)))/\
   (w.drew).heap=w.heap/\(w.drew.setRow g C1).heap=(w.setRow g C1).heap:=by
 obtain⟨i0,z0,hi,hs,hz,DA,FD,hK⟩:=hI.i;obtain⟨fn,bt,f1,f2,f3,f4,f5⟩:=hI.o;have AD:=A2.len;have EM:=hv.len;have Vb:=A2;obtain⟨MD,Gk,hg,KC,BE⟩:=Vb;have KN:g<w.heap.size:=Di hg;have BJ:(P.info? el).map (·.size)=some K:=by rw[hi];simp[hs]
 have oU:=hv.2.2.1;have nC:i*K<=n*K:=Bz _ (by omega);have e1:(i+m)*K=i*K+m*K:=Nat.add_mul ..;have e2:(n+m)*K=n*K+m*K:=Nat.add_mul ..;have e3:(n+m-i)*K=n*K+m*K-i*K:=by rw[Nat.sub_mul,e2]
 have e4:(n-i)*K=n*K-i*K:=Nat.sub_mul ..;have e6:n*K+m*K<=cap*K:=by rw[<-e2];exact Bz _ BV
 have e7:0<cap*K:=Nat.mul_pos (by omega) hK;obtain⟨C1,Js⟩:∃R:Array Value,R=(C.toList.take ((i+m)*K)++cs.drop (i*K)++C.toList.drop ((i+m)*K+(cs.drop (i*K)).length)).toArray:=⟨_,rfl⟩
 obtain⟨C2,NM⟩:∃R:Array Value,R=(C1.toList.take (i*K)++vs++C1.toList.drop (i*K+vs.length)).toArray:=⟨_,rfl⟩
 have Mj:C1.size=cap*K:=by rw[Js];simp only[List.size_toArray,Av,AE,Bn,BF];omega
 have Mk:C2.size=cap*K:=by rw[NM];simp only[List.size_toArray,Av,AE,Bn,BF];omega
 have hB:(w.setRow g C1).heap[g]?=some (.cells C1 el (0,0)):=setRow_heap _ _ _ _ _ _ hg;have MC:Nat.min (n+m-i) (n+m-(i+m))=n-i:=by rw[show Nat.min (n+m-i) (n+m-(i+m))=n+m-(i+m)from Nat.min_eq_right (by omega)];omega
 refine⟨C1,C2,λlb cb=> ?_,λW hW ty dc sc=> ?_,λW hW ty dc=> ?_,λW w1 w2 w3 hW=> ?_,rfl,rfl⟩
 ·rw[run_callFunc_extern f1 f2 f3 f4 f5,Lib.run_overlaps_apart w st bt el hI.u K (λw=>by simp[Go.sizeOf,typeInfo,hi,hs]) ⟨vb,0,none⟩ ⟨g,(i+m)*K,none⟩ m vc lb cb Ru el el VC.size C.size (by simp[World.shape?,oU]) (by simp[World.shape?,hg]) (by omega) (by simp[World.frozen?,oU]) (by simp[World.frozen?,oU])];rfl
 ·have h:=gZ (P:=P) W st st ty el K g ((i+m)*K) (n+m-(i+m)) dc ⟨g,i*K,none⟩ (n+m-i) sc C el (cs.drop (i*K)) hI.u BJ (by rw[hW];exact hg) (by rw[Bn,AD,MC];omega)
   (λj v hj=>by rw[World.cell?_of_block (w:=w) (by rw[hW])];exact A2.cell (i*K) j v hj) (by rw[KC,Bn,AD];omega) (λv hv=>Hg v (BR hv))
  rw[MC,<-Js]at h;exact h
 ·have h:=gZ (P:=P) W st st ty el K g (i*K) (n+m-i) dc ⟨vb,0,none⟩ m vc C1 el vs hI.u BJ (by rw[hW];exact hB) (by rw[EM,show Nat.min m (n+m-i)=m from Nat.min_eq_left (by omega)])
   (λj v hj=>by rw[World.cell?_of_block (w:=w) (by rw[Addr.add_lit,hW];exact setRow_other _ _ _ _ (by simpa using Ru))];exact hv.cell 0 j v (by simpa using hj)) (by rw[Mj,EM];omega) Hh
  rw[show Nat.min m (n+m-i)=m from Nat.min_eq_left (by omega),<-NM]at h;exact h
 ·have no:∀k,¬k∈own->k≠g:=λk hn e=>hn (e▸Ey);refine⟨g,cap,C2,rfl,⟨BV,Gk,by rw[hW];exact setRow_heap _ _ _ _ _ _ hB,Mk,?_⟩,⟨w1,w2,w3,by rw[hW];simp,λk hk hn=>by rw[hW,setRow_other _ _ _ _ (by first|exact no k hn|exact(no k hn).symm),setRow_other _ _ _ _ (by first|exact no k hn|exact(no k hn).symm)]⟩, .inl Ey⟩;have h:=zQz C.toList cs vs (i*K) (m*K) (n*K) BE nC EM (by rw[BF,KC];omega);rw[NM,Js,Nat.add_mul n m,Nat.add_mul i m];exact h.symm
instance inf_Write:HU Tryz.prog 132 3 66 3 242:=⟨Tryz.underlying66,Tryz.underlying3,ZR (by kernel_rfl),_,4,Tryz.func242,by kernel_rfl,by kernel_rfl,by kernel_rfl,by kernel_rfl⟩
instance inf_Held:HU Tryz.prog 383 5 126 3 375:=⟨Tryz.underlying126,Tryz.underlying3,ZR (by kernel_rfl),_,4,Tryz.func375,by kernel_rfl,by kernel_rfl,by kernel_rfl,by kernel_rfl⟩
instance inf_Told:HU Tryz.prog 387 3 127 3 401:=⟨Tryz.underlying127,Tryz.underlying3,ZR (by kernel_rfl),_,4,Tryz.func401,by kernel_rfl,by kernel_rfl,by kernel_rfl,by kernel_rfl⟩
instance inf_Cell:HU Tryz.prog 206 2 125 3 414:=⟨Tryz.underlying125,Tryz.underlying3,ZR (by kernel_rfl),_,4,Tryz.func414,by kernel_rfl,by kernel_rfl,by kernel_rfl,by kernel_rfl⟩
set_option maxHeartbeats 16000000 in
theorem lI:WH Tryz.prog 154 132 3/\WH Tryz.prog 336 383 5/\WH Tryz.prog 367 387 3/\WH Tryz.prog 399 206 2:=by
 refine⟨?_,?_,?_,?_⟩<;>(
  intro w v n cs own vb vc m VC vs AD A2 hv hm hb Hh;obtain⟨v',w1,hr,fin⟩:=zLJ (P:=Tryz.prog) AD A2 hv hm hb Hh;have Zp: ¬((m:Int)=0):=by omega
  clear hv Hh AD;rcases A2 with⟨rfl,_|⟨qb,qo,qs⟩,rfl⟩|⟨g,cap,C,rfl,_,_⟩<;>(
   first|go_enter Tryz.func154,Tryz.ntmps154|go_enter Tryz.func336,Tryz.ntmps336|go_enter Tryz.func367,Tryz.ntmps367|go_enter Tryz.func399,Tryz.ntmps399
   go_wp2_with (at_builtin;refine Lib.wpList_append_run _ rfl _ _ _ _ rfl _ _ rfl rfl _ _ hr ?_)
   all_goals (go_ret;exact⟨_,rfl,fin⟩)))
set_option maxHeartbeats 16000000 in
theorem lC:WI Tryz.prog 154 132 3/\WI Tryz.prog 336 383 5/\WI Tryz.prog 367 387 3/\WI Tryz.prog 399 206 2:=by
 refine⟨?_,?_,?_,?_⟩<;>(
  intro w n i g cap C cs own vb vc m VC vs A2 Cs BV hv hm hb Hh Hg;obtain⟨G,ROW,ROW2,ROW3,YZ,hG64,Rr,mM,Vg,fin,hE1,lO⟩:=zLv (P:=Tryz.prog) own A2 Cs BV hv hm hb Hh Hg;obtain⟨MD,Gk,hg,KC, -⟩:=A2;have KN:=Di hg;have Zp: ¬((m:Int)=0):=by omega
  have P9: ¬((i:Int)=(n:Int)):=by omega
  have hz3:(cap:Int)<(n:Int)+(m:Int):=by omega
  have hGi: ¬(G=i):=by omega
  have hGim: ¬(G=i+m):=by omega
  have Vd: ¬(cap=i):=by omega
  have K3:IntKind.i64.wrap ((i:Int)+(m:Int))=(i:Int)+(m:Int):=by rw[IntKind.wrap_i64];omega
  have CE:(0:Int)<=(i:Int)+(m:Int):=by omega
  have nE:i<=n:=by omega
  have Zl:((i:Int)+(m:Int)).toNat=i+m:=by omega
  have GC:(i:Int)<=(n:Int):=by omega
  first|go_enter Tryz.func154,Tryz.ntmps154|go_enter Tryz.func336,Tryz.ntmps336|go_enter Tryz.func367,Tryz.ntmps367|go_enter Tryz.func399,Tryz.ntmps399
  go_wp2_with (first
   |(at_builtin;refine Lib.wpList_append_run _ rfl _ _ _ _ rfl _ _ rfl rfl _ _ (Rr _) ?_)
   |(at_builtin;refine z7 _ rfl _ _ _ _ rfl _ _ rfl rfl (mM _ hE1 _ _) ?_)
   |(at_builtin;refine z7 _ rfl _ _ _ _ rfl _ _ rfl rfl (Vg _ rfl _ _ _) ?_))
  go_region_law (refine zyb rfl _ _ _ _ rfl _ _ (by simp[Act.eval,Act.put]) (by simp[Act.eval,Act.put]) (Vg _ lO _ (G-(i+m)) (cap-i)) ?_)
  go_wp2
  go_ret
  exact⟨_,rfl,fin _ rfl rfl rfl rfl⟩)
set_option maxHeartbeats 16000000 in
theorem kY:WM Tryz.prog 154 132 3/\WM Tryz.prog 336 383 5/\WM Tryz.prog 367 387 3/\WM Tryz.prog 399 206 2:=by
 refine⟨?_,?_,?_,?_⟩<;>(
  intro w n i g cap C cs own vb vc m VC vs A2 Ey Cs BV Ru hv hm Hh Hg;obtain⟨C1,C2,oA,mK,mL,fin,lO,hF2⟩:=zMA (P:=Tryz.prog) A2 Ey Cs BV Ru hv hm Hh Hg;obtain⟨MD,U8,hg,KC, -⟩:=A2;have U8:cap<=9223372036854775807:=U8;have KN:=Di hg;have Zp: ¬((m:Int)=0):=by omega
  have P9: ¬((i:Int)=(n:Int)):=by omega
  have hz3: ¬((cap:Int)<(n:Int)+(m:Int)):=by omega
  have Vd: ¬(cap=i):=by omega
  have hcim: ¬(cap=i+m):=by omega
  have K3:IntKind.i64.wrap ((i:Int)+(m:Int))=(i:Int)+(m:Int):=by rw[IntKind.wrap_i64];omega
  have CE:(0:Int)<=(i:Int)+(m:Int):=by omega
  have nE:i<=n:=by omega
  have Zl:((i:Int)+(m:Int)).toNat=i+m:=by omega
  have GC:(i:Int)<=(n:Int):=by omega
  have hb4:(i:Int)<=(n:Int)+(m:Int):=by omega
  clear hg hv
  first|go_enter Tryz.func154,Tryz.ntmps154|go_enter Tryz.func336,Tryz.ntmps336|go_enter Tryz.func367,Tryz.ntmps367|go_enter Tryz.func399,Tryz.ntmps399
  go_wp2_with (simp only[oA])
  go_region_law (refine zyb rfl _ _ _ _ rfl _ _ (by simp[Act.eval,Act.put]) (by simp[Act.eval,Act.put]) (mK _ lO _ (cap-(i+m)) (cap-i)) ?_)
  go_wp2_with (at_builtin;refine z7 _ rfl _ _ _ _ rfl _ _ rfl rfl (mL _ hF2 _ _) ?_)
  go_ret
  exact⟨_,rfl,fin _ rfl rfl rfl rfl⟩)
theorem zKe:Lu Tryz.prog 154 132 3:=lF lI.1 lC.1 kY.1
theorem zL2:Lu Tryz.prog 336 383 5:=lF lI.2.1 lC.2.1 kY.2.1
theorem zKR:Lu Tryz.prog 367 387 3:=lF lI.2.2.1 lC.2.2.1 kY.2.2.1
theorem zKs:Lu Tryz.prog 399 206 2:=lF lI.2.2.2 lC.2.2.2 kY.2.2.2
theorem zKa:∃i z,Tryz.prog.info? 383=some i/\i.size=5/\i.zero=some z/\z.cells.size=5/\ ∀u∈z.cells,u.oneCell'=true:=by
 have h:(match Tryz.prog.info? 383 with|some i=>(match i.zero with|some z=>i.size==5&&z.cells.size==5&&z.cells.all (λu=>u.oneCell')|none=>false)|none=>false)=true:=by kernel_rfl
 split at h
 ·rename_i i hi;split at h
  ·rename_i z hz;simp only[Ac,Ay,Array.all_eq_true_iff_forall_mem]at h;exact⟨i,z,hi,h.1.1,hz,h.1.2,h.2⟩
  ·cases h
 ·cases h
set_option maxHeartbeats 4000000 in
theorem zL7:tA Tryz.prog 366 383 5:=by
 intro w n i j g cap C cs A2 Gl hjn h1;obtain⟨i0,z0,hi,hs,hz,DA,hzo⟩:=zKa;have hv:∀w,(zeroValue 383).run Tryz.prog w= .ok z0 w:=λw=>by simp[zeroValue,typeInfo,hi,hz]
 obtain⟨d,rfl⟩:∃d,j=i+d:=⟨j-i,by omega⟩
 obtain⟨m,rfl⟩:∃m,n=i+d+m:=⟨n-(i+d),by omega⟩
 have AD:=A2.len;have Vb:=A2;obtain⟨MD,Gk,hg,KC,BE⟩:=Vb;have hcm':cap<=9223372036854775807:=Gk;have hmul:=Bz 5 MD;obtain⟨news,Dt⟩:∃s,s=cs.drop ((i+d)*5):=⟨_,rfl⟩
 have KW:news.length=m*5:=by rw[Dt,Bn,AD];omega
 have h1n:∀u∈news,u.oneCell'=true:=λu hu=>by rw[Dt]at hu;exact h1 u (BR hu)
 obtain⟨C1,Js⟩:∃R:Array Value,R=(C.toList.take (i*5)++news++C.toList.drop (i*5+news.length)).toArray:=⟨_,rfl⟩
 have Mj:C1.size=cap*5:=by rw[Js];simp only[List.size_toArray,Av,AE,Bn,BF];omega
 obtain⟨A,hA,Dx⟩:∃A:Addr,(if cap=i+d then some (⟨g,0,none⟩:Addr)else some ⟨g,(i+d)*5,none⟩)=some A/\ ∀q u,news[q]?=some u->w.cell? (A.add q)=some u:=by
  by_cases h:cap=i+d
  ·refine⟨⟨g,0,none⟩,by simp[h],λq u hu=> ?_⟩;have CF:m=0:=by omega
   have h0:news.length=0:=by rw[KW,CF,Nat.zero_mul]
   rw[List.length_eq_zero_iff.1 h0]at hu;simp at hu
  ·refine⟨⟨g,(i+d)*5,none⟩,by simp[h],λq u hu=> ?_⟩;exact A2.cell ((i+d)*5) q u (by rw[<-Dt];exact hu)
 have IS:∀(W:World),W.heap=w.heap-> ∀ty,(Builtin.append_ #[126,126] ty #[.slice (some ⟨g,0,none⟩) i cap, .slice (some A) m (cap-(i+d))]).run Tryz.prog W= .ok (.slice (some ⟨g,0,none⟩) (i+m) cap) (W.setRow g C1):=λW hW ty=>by rw[Js];exact zvx W 126 ty 383 i0 Tryz.underlying126 hi 5 hs g i cap A m (cap-(i+d)) C news (by rw[hW];exact hg) KW (λq u hu=>by rw[World.cell?_of_block (w:=w) (by rw[hW])];exact Dx q u hu) h1n (by omega) (by rw[KC,KW];omega)
 obtain⟨W1,U1⟩:∃W1,W1=w.drew.setRow g C1:=⟨_,rfl⟩
 have Pq:W1.heap[g]?=some (.cells C1 383 (0,0)):=by rw[U1];exact setRow_heap _ _ _ _ _ _ hg
 obtain⟨C2,NM⟩:∃R:Array Value,R=(C1.toList.take ((i+m)*5)++(Builtin.zeroCells z0.cells d).toList++C1.toList.drop ((i+m)*5+(Builtin.zeroCells z0.cells d).toList.length)).toArray:=⟨_,rfl⟩
 have Mk:C2.size=cap*5:=by rw[NM];simp only[List.size_toArray,Av,AE,Bn,BF,size_zeroCells,DA];omega
 have hcr:∀ty N c,N=d->(Builtin.clear_ #[126] ty #[.slice (some ⟨g,(i+m)*5,none⟩) N c]).run Tryz.prog W1= .ok (.tuple #[]) (W1.setRow g C2):=λty N c hN=>by subst hN;rw[NM];exact zG5 W1 126 383 ty z0 Tryz.underlying126 hv hzo g ((i+m)*5) N c C1 (by omega) Pq (by rw[DA,Mj];omega)
 have fin:∀W:World,W.os=w.os->W.tape=w.tape->W.output=w.output->W.heap=(W1.setRow g C2).heap-> ∃C',Dq W 383 5 g cap C' (i+m) (cs.take (i*5)++cs.drop ((i+d)*5))/\Mod [g] w W:=λW w1 w2 w3 hW=>by
  refine⟨C2,⟨by omega,Gk,by rw[hW];exact setRow_heap _ _ _ _ _ _ Pq,Mk,?_⟩,w1,w2,w3,by rw[hW,U1];simp,λk hk hn=>by rw[hW,setRow_other _ _ _ _ (by simpa using hn),U1,setRow_other _ _ _ _ (by simpa using hn)];rfl⟩;have l1:(C.toList.take (i*5)).length=i*5:=by rw[AE,BF,KC];omega
  have e1:C1.toList.take ((i+m)*5)=C.toList.take (i*5)++news:=by
   rw[Js];show(C.toList.take (i*5)++news++_).take _=_;have l2:(C.toList.take (i*5)++news).length=(i+m)*5:=by rw[Av,l1,KW];omega
   rw[<-l2];exact List.take_left
  rw[NM];show _=(C1.toList.take ((i+m)*5)++_++_).take _;rw[e1,List.append_assoc,<-Dt,BE,List.take_take];have l2:(C.toList.take (i*5)++news).length=(i+m)*5:=by rw[Av,l1,KW];omega
  rw[<-l2,List.take_left,Nat.min_eq_left (by omega)]
 have PK: ¬cap=i+m:=by omega
 have HW:=Lib.hid U1;have Y7:0<d:=by omega
 have BU: ¬(i:Int)=(i:Int)+(d:Int):=by omega
 have h2:i<=cap:=by omega
 have h3:i+d<=cap:=by omega
 have mixed:Tryz.prog.follows Departure.mixedOrders=true:=by kernel_rfl
 have CE:(0:Int)<=(i:Int)+(d:Int):=by omega
 have FC:(i:Int)+(d:Int)<=(i:Int)+(d:Int)+(m:Int):=by omega
 have Zl:((i:Int)+(d:Int)).toNat=i+d:=by omega
 have hmn:i+d+m-(i+d)=m:=by omega
 have hcr2:=λty=>hcr ty (i+d+m-(i+m)) (cap-(i+m)) (by omega);clear hcr;clear A2 BE KC hg Dx Dt KW h1n Js Mj NM Mk Pq U1 DA hzo hz hi hs hv hmul AD h1
 go_enter Tryz.func366,Tryz.ntmps366
 go_wp2_with fail
 go_region_law_o (refine zu5 rfl _ _ 126 rfl (.slice (some ⟨g,0,none⟩) i cap) (.slice (some A) m (cap-(i+d))) (by simp[Act.eval,Act.put]) (by simp[Act.eval,Act.put]) (IS _ rfl) ?_;rw[<-HW.out])
 go_wp2
 go_ret
 obtain⟨C',f1,f2⟩:=fin _ (by rw[HW.out];rfl) (by rw[HW.out];rfl) (by rw[HW.out];rfl) rfl;exact⟨C',by simp;omega,by rw[show i+d+m-(i+d-i)=i+m by omega];exact f1,f2⟩
end Go.Proofs.YtlmjpjceiefpoaaGreatDoor
end
section
namespace Go.Proofs.YtlmjpjceiefpoaaGreatDoor
open Go.RowKit Go.Sort
set_option maxRecDepth 100000
def zPy(P:Program)(sg:BY)(f:Nat)(t el K:Nat):Bool:=
 match P.funcs[f]?,sg f with
 |some fn,some s=>(match s.c8,s.res,s.ft,s.lo with
  | [.va [true]],[true],[],[]=>true
  |_,_,_,_=>false)&&fn.body.isSome&& !(fn.name== "runtime.NumGoroutine")&&fn.params.toList==[t]&&fn.resultTypes.toList==[t]&&fn.nfree==0&& !Aq P t&&Bc P t==[t]&&CH P t==some el&&Ch P el&&P.cellsOf el==K&&FL P t [true]&&fn.params.size==1
 |_,_=>false
theorem zwj{w:World}{b q:Nat}{d:Array (List UInt8)}{C:Array Value}{el:TypeId}(h:w.heap[b]?=some (.cells C el (0,0))):
  (putRow encStr (Sort.ahead w q) b 0 d).heap[b]?=some (.cells (Go.Sort.putCells encStr 0 d C) el (0,0)):=by
 show(w.heap.modify b (onCells (Go.Sort.putCells encStr 0 d)))[b]?=_;rw[Array.getElem?_modify,if_pos rfl,h];rfl
theorem zzn{w:World}{b q:Nat}{d:Array (List UInt8)}:Mod [b] w (putRow encStr (Sort.ahead w q) b 0 d):=by
 refine⟨rfl,rfl,rfl,?_,λj hj hn=> ?_⟩
 ·show w.heap.size<=(w.heap.modify b (onCells (Go.Sort.putCells encStr 0 d))).size;simp
 ·show(w.heap.modify b (onCells (Go.Sort.putCells encStr 0 d)))[j]?=_;rw[Array.getElem?_modify,if_neg (by simpa[eq_comm]using hn)]
theorem zvW(C:Array Value)(r:List (List UInt8))(z:List (List UInt8))(h:r.length+z.length<=C.size):(Go.Sort.putCells encStr 0 (r++z).toArray C).toList.take r.length=r.map encStr:=by
 apply List.ext_getElem?;intro j;by_cases hj:j<r.length
 ·have hc:j<C.size:=by omega
  rw[List.getElem?_take,if_pos hj,List.getElem?_map,AL hj,Option.map_some,Array.getElem?_toList];have:j<(Go.Sort.putCells encStr 0 (r++z).toArray C).size:=by simp[Go.Sort.putCells];exact hc
  rw[Array.getElem?_eq_getElem this];simp only[Go.Sort.putCells,Array.getElem_mapIdx,Nat.zero_le,true_and,Nat.zero_add,Nat.sub_zero];rw[if_pos (by simp;omega)];have h2:j<(r++z).toArray.size:=by simp;omega
  rw[getElem!_pos _ j h2];simp[hj]
 ·rw[List.getElem?_take,if_neg hj,List.getElem?_eq_none (by simpa using hj)]
theorem zM1(b:ByteArray):encStr b.data.toList= .string b:=by show Value.string ⟨b.data.toList.toArray⟩= .string b;cases b;simp
theorem rE{w:World}:∀(r:List (List UInt8)),(∀s∈r,s.length<=9223372036854775807)->Rd w (r.map encStr) (Az (r.map Cy)) []
 | [],_=>by simpa[Az]using Rd.nil
 |s::r,h=>by
  have e:Az ((s::r).map Cy)= .str s::Az (r.map Cy):=by simp[Az,Cy,AV.cells]
  rw[e,List.map_cons];have:=Rd.str (w:=w) (s:=⟨s.toArray⟩) (by show s.toArray.size<=_;simpa using h s (by simp)) (rE r λx hx=>h x (by simp[hx]));simpa using this
theorem ztT{w:World}:∀{cs:List Value} {xs:List (List UInt8)} {f:List Nat},Rd w cs (Az (xs.map Cy)) f-> ∀s∈xs,s.length<=9223372036854775807
 |cs,[],f,_=>by simp
 |cs,x::xs,f,h=>by
  have e:Az ((x::xs).map Cy)= .str x::Az (xs.map Cy):=by simp[Az,Cy,AV.cells]
  rw[e]at h;cases h with
  |str a h=>
   intro s hs;rcases Ag.1 hs with rfl|hs
   ·simpa using a
   ·exact ztT h s hs
theorem zxl(zs:List (List UInt8)):∀s∈Lib.compact zs,s∈zs:=by
 intro s hs;unfold Lib.compact Lib.compactUpTo at hs;obtain⟨j,hj,rfl⟩:=List.mem_map.1 hs;have AP:j<zs.length:=by simpa using(List.mem_filter.1 hj).1
 rw[getElem!_pos _ j (by simpa using AP)];simp
theorem zE7{f t el:Nat}(hk:zPy Tryz.prog BM f t el 1=true)(Ci:∀r,HR Tryz.prog BM f r=true)
  (hC:∀(blk cap:Nat) (zs:List (List UInt8)) (w:World),Holds encStr w blk 0 zs.toArray->zs.length<=9223372036854775807->zs.length<=cap->
   Calls Tryz.prog f #[.slice (some ⟨blk,0,none⟩) zs.length cap] w λe w'=>e= .returned (.slice (some ⟨blk,0,none⟩) (Lib.compact zs).length cap)/\ ∃q,w'=putRow encStr (Sort.ahead w q) blk 0 (Lib.compact zs++List.replicate (zs.length-(Lib.compact zs).length) []).toArray)
  (h0:∀a cap w,Calls Tryz.prog f #[.slice a 0 cap] w λe w'=>e= .returned (.slice a 0 cap)/\w'=w)
  (xs:List (List UInt8)):Cj Tryz.prog BM f [.sl (xs.map Cy)] (.sl ((Lib.compact xs).map Cy)):=by
 unfold zPy at hk;split at hk
 ·rename_i fn s hf hs;simp only[Ac,Bk,Ay]at hk;obtain⟨⟨⟨⟨⟨⟨⟨⟨⟨⟨⟨⟨g1,g2⟩,g3⟩,g4⟩,g5⟩,g6⟩,g7⟩,g8⟩,g9⟩,g10⟩,g11⟩,g12⟩,g13⟩:=hk;obtain⟨hm,hr,Cr,B7⟩:s.c8=[.va [true]]/\s.res=[true]/\s.ft=[]/\s.lo=[]:=by
   split at g1
   ·rename_i a b c d;exact⟨a,b,c,d⟩
   ·cases g1
  have AD:=Lib.compact_length_le xs;unfold Cj;rw[if_pos (Ks f s hs)];refine⟨s,hs,fn,hf,g2,g3,by have:=Ci ((Lib.compact xs).map Cy);unfold HR at this;rw[hf,hs]at this;exact this,by simp[g6,g13],by simp[Cr],λw vs rf lf A9 Aj hd _ Cb D5=> ?_⟩;rw[g4,Cr,AG,hm,B7]at Aj;cases Aj with
  |lent h _ _ _=>cases h
  | @cons _ _ _ _ v1 vs1 _ _ f1 k1 rf1 lf1 BO a1 Aj=>
   cases Aj;obtain⟨rfl,r1⟩:=kG g7 g8 g9 g10 a1;obtain⟨xs',cs,e1,p0,p1,p2,p3,p4,p5⟩:=r1.me;cases e1;rw[g11]at p0 p1 p2 p5;have fin:∀{w':World} {v':Value} {top:List Nat},Mod k1 w w'->Dd w' el 1 v' (.sl ((Lib.compact xs).map Cy)) top []->top.Nodup->(∀b∈top,b∈k1/\b<w'.heap.size)->tH Tryz.prog fn s w [v1] ([]++ []) (k1++ []) (.sl ((Lib.compact xs).map Cy)) v' w':=by
    intro w' v' top Bg Bj D4 Ct;refine⟨⟨_,[],[],top,[],[],rfl,?_,?_,by simpa using D4,?_,by simp⟩,Bg.weaken λb hb=> .inl (by simp[hb])⟩
    ·rw[g5];show DI Tryz.prog w' t s.res _ _ [] top;unfold DI;rw[hr,if_pos g12];refine⟨[v'],[.sl ((Lib.compact xs).map Cy)],by rw[g7];simp,?_⟩;rw[g8];have:=CA.own (P:=Tryz.prog) (t:=t) (ts:=[]) (fl:=[true]) (us:=[]) (ys:=[]) (rf:=[]) (hs:=[]) rfl g9 (.inl ⟨g10,rfl⟩) (by rw[g11];exact Bj) .nil;simpa using this
    ·rw[g4,Cr,AG,hm];exact .va rfl .nil
    ·intro b hb;simp only[AG]at hb;exact⟨.inl (by simpa using(Ct b hb).1),(Ct b hb).2⟩
   rcases p5 with⟨EJ,rfl,q,rfl⟩|⟨g,cap,C,rfl,⟨z1,z2,z3,z4,z5⟩,rfl⟩
   ·have Da:xs=[]:=by simpa using EJ
    subst Da;refine(h0 q 0 w).mono ?_;rintro e w' ⟨rfl,rfl⟩;have:Lib.compact ([]:List (List UInt8))=[]:=rfl;exact⟨_,rfl,fin (Mod.refl _ _) ⟨[],by rw[this];rfl,by simp,by omega, .inl ⟨rfl,⟨q,rfl⟩,rfl,rfl⟩⟩ (by simp) (by simp)⟩
   ·rw[List.length_map]at z1 z5;obtain⟨bs,b1,b2⟩:=iY p3;have Rl:=Di z3;have Bw:∀o,w.cell? ⟨g,o,none⟩=C[o]?:=Yr z3;have BE:cs=xs.map encStr:=by
     rw[b1,<-b2,List.map_map];exact List.map_congr_left λb _=>(zM1 b).symm
    have hH:Holds encStr w g 0 xs.toArray:=by
     intro j hj;have J8:j<xs.length:=by simpa using hj
     refine⟨?_,gU z3⟩;rw[Bw,Nat.zero_add];have e1:C[j]?=cs[j]?:=by rw[z5,List.getElem?_take,if_pos (by omega)];simp
     rw[e1,BE,List.getElem?_map,AL J8,getElem!_pos _ j hj];simp
    have hc:=hC g cap xs w hH (by unfold maxLen at z2;omega) z1;rw[List.length_map]at fin ⊢;refine hc.mono ?_;rintro e w' ⟨rfl,q,rfl⟩;have E2:=zwj (q:=q) (d:=(Lib.compact xs++List.replicate (xs.length-(Lib.compact xs).length) []).toArray) z3;refine⟨_,rfl,fin (top:=[g]) zzn ?_ (by simp) (λb hb=>by rw[List.mem_singleton]at hb;subst hb;exact⟨by simp,Di E2⟩)⟩;have B4:=zvW C (Lib.compact xs) (List.replicate (xs.length-(Lib.compact xs).length) []) (by rw[List.length_replicate,z4];omega);refine⟨_,rfl,λy hy=> ?_,by omega, .inr ⟨g,cap,_,by simp,by rw[List.length_map];omega,z2,E2,by simp[Go.Sort.putCells,z4],rfl,?_,?_⟩⟩
    ·obtain⟨x,_,rfl⟩:=List.mem_map.1 hy;rfl
    ·rw[List.length_map,Nat.mul_one,B4];intro u hu;obtain⟨x,_,rfl⟩:=List.mem_map.1 hu;rfl
    ·rw[List.length_map,Nat.mul_one,B4];exact rE _ λs hs=>ztT p3 s (zxl xs s hs)
 ·cases hk
noncomputable def aP(xs:List (List UInt8)):Option (List (List UInt8)):=some (Lib.compact xs)
theorem zjL(a0 r:List (List UInt8))(h:aP a0=some r):Cj Tryz.prog BM 406 [.sl (a0.map Cy)] (.sl (r.map Cy)):=by cases h;exact zE7 (t:=26) (el:=9) (by kernel_rfl) (λ_=>by kernel_rfl) (λblk cap zs w hH h1 h2=>Tryz.slices_Compact_string blk 0 cap zs w hH h1 h2) (λa cap w=>Tryz.slices_Compact_string_empty a cap w) a0
def zP2(P:Program)(sg:BY)(f:Nat)(t el K:Nat):Bool:=
 match P.funcs[f]?,sg f with
 |some fn,some s=>(match s.c8,s.res,s.ft,s.lo with
  | [.mu [true]],[],[],[]=>true
  |_,_,_,_=>false)&&fn.body.isSome&& !(fn.name== "runtime.NumGoroutine")&&fn.params.toList==[t]&&fn.resultTypes.toList==[]&&fn.nfree==0&& !Aq P t&&Bc P t==[t]&&CH P t==some el&&Ch P el&&P.cellsOf el==K&&fn.params.size==1
 |_,_=>false
theorem zJc{w:World}{b q:Nat}{d:Array (List UInt8)}{C:Array Value}{el:TypeId}{os:Array Obj}(h:w.heap[b]?=some (.cells C el (0,0))):
  (grow (putRow encStr (Sort.ahead w q) b 0 d) os).heap[b]?=some (.cells (Go.Sort.putCells encStr 0 d C) el (0,0)):=by
 have h1:=zwj (q:=q) (d:=d) h;show((putRow encStr (Sort.ahead w q) b 0 d).heap++os)[b]?=_;rw[Array.getElem?_append_left (Di h1),h1]
theorem zMp{w:World}{b q:Nat}{d:Array (List UInt8)}{os:Array Obj}:Mod [b] w (grow (putRow encStr (Sort.ahead w q) b 0 d) os):=by
 have h:=zzn (w:=w) (b:=b) (q:=q) (d:=d);have hs:=h.size;refine⟨h.os,h.tape,h.output,?_,λj hj hn=> ?_⟩
 ·show w.heap.size<=((putRow encStr (Sort.ahead w q) b 0 d).heap++os).size;simp only[Array.size_append];omega
 ·show((putRow encStr (Sort.ahead w q) b 0 d).heap++os)[j]?=_;rw[Array.getElem?_append_left (by omega)];exact h.block j hj hn
def HQ(xs:List (List UInt8)):List (List UInt8):=xs.mergeSort λx y=>decide (x<=y)
theorem zzN(xs:List (List UInt8)):(HQ xs).Perm xs:=List.mergeSort_perm _ _
theorem zI1{f t el:Nat}(hk:zP2 Tryz.prog BM f t el 1=true)
  (hC:∀(blk cap:Nat) (zs:List (List UInt8)) (w:World),Holds encStr w blk 0 zs.toArray->blk<w.heap.size->zs.length<4611686018427387904->
   Calls Tryz.prog f #[.slice (some ⟨blk,0,none⟩) zs.length cap] w λe w'=>e= .returned (.tuple #[])/\ ∃n os,w'=grow (putRow encStr (Sort.ahead w n) blk 0 (zs.mergeSort λx y=>decide (x<=y)).toArray) os)
  (h0:∀a cap w,Calls Tryz.prog f #[.slice a 0 cap] w λe w'=>e= .returned (.tuple #[])/\w'=w)
  (xs:List (List UInt8)) (hb:xs.length<4611686018427387904):Cj Tryz.prog BM f [.sl (xs.map Cy)] (.tup [.tup [], .sl ((HQ xs).map Cy)]):=by
 unfold zP2 at hk;split at hk
 ·rename_i fn s hf hs;simp only[Ac,Bk,Ay]at hk;obtain⟨⟨⟨⟨⟨⟨⟨⟨⟨⟨⟨g1,g2⟩,g3⟩,g4⟩,g5⟩,g6⟩,g7⟩,g8⟩,g9⟩,g10⟩,g11⟩,g13⟩:=hk;obtain⟨hm,hr,Cr,B7⟩:s.c8=[.mu [true]]/\s.res=[]/\s.ft=[]/\s.lo=[]:=by
   split at g1
   ·rename_i a b c d;exact⟨a,b,c,d⟩
   ·cases g1
  have hp:=zzN xs;have GU:=hp.length_eq;unfold Cj;rw[if_pos (Ks f s hs)];refine⟨s,hs,fn,hf,g2,g3,?_,by simp[g6,g13],by simp[Cr],λw vs rf lf A9 Aj hd _ Cb D5=> ?_⟩
  ·unfold Nv Wu;rw[g4,g5,Cr,AG,hm];simp[BN,V7,Ji]
  rw[g4,Cr,AG,hm,B7]at Aj;cases Aj with
  |lent h _ _ _=>cases h
  | @cons _ _ _ _ v1 vs1 _ _ f1 k1 rf1 lf1 BO a1 Aj=>
   cases Aj;obtain⟨rfl,r1⟩:=kG g7 g8 g9 g10 a1;obtain⟨xs',cs,e1,p0,p1,p2,p3,p4,p5⟩:=r1.me;cases e1;rw[g11]at p0 p1 p2 p5;have MO:(xs.map Cy).length=xs.length:=by simp
   rcases p5 with⟨EJ,rfl,q,rfl⟩|⟨g,cap,C,rfl,⟨z1,z2,z3,z4,z5⟩,rfl⟩
   ·have Da:xs=[]:=by simpa using EJ
    subst Da;have hS0:HQ []=[]:=by simpa using GU
    refine(h0 q 0 w).mono ?_;rintro e w' ⟨rfl,rfl⟩;refine⟨_,rfl,⟨⟨.tup [],[.sl []],[],[],[],[],by simp[hS0],?_,?_,by simp,by simp,by simp⟩,Mod.refl _ _⟩⟩
    ·rw[g5];exact⟨[],[],rfl,rfl, .nil⟩
    ·rw[g4,Cr,AG,hm];have GK:FO Tryz.prog w' (Bc Tryz.prog t) [true] [.slice q 0 0] [.sl []] [] []:=by
      rw[g8];have:=FO.own (P:=Tryz.prog) (w:=w') (t:=t) (ts:=[]) (fl:=[true]) (us:=[]) (ys:=[]) rfl g9 (.inl ⟨g10,rfl⟩) (y:= .sl []) (u:= .slice q 0 0) (top:=[]) (by rw[g11];exact⟨[],rfl,by simp,p0, .inl ⟨rfl,⟨q,rfl⟩,rfl,rfl⟩⟩) .nil;simpa using this
     have:=DY.mu (P:=Tryz.prog) (w:=w') (t:=t) (ts:=[]) (ms:=[.mu [true]]) (own:=[true]) (v:= .slice q 0 0) (vs:=[]) (us:=[.slice q 0 0]) (ys:=[.sl []]) (y:= .sl []) (bs:=[]) (f:=[]) (o1:=[]) (o:=[]) rfl (by rw[g7];simp) GK .nil;simpa using this
   ·rw[List.length_map]at z1 z5;obtain⟨bs,b1,b2⟩:=iY p3;have Bw:∀o,w.cell? ⟨g,o,none⟩=C[o]?:=Yr z3;have BE:cs=xs.map encStr:=by
     rw[b1,<-b2,List.map_map];exact List.map_congr_left λb _=>(zM1 b).symm
    have hH:Holds encStr w g 0 xs.toArray:=by
     intro j hj;have J8:j<xs.length:=by simpa using hj
     refine⟨?_,gU z3⟩;rw[Bw,Nat.zero_add];have e1:C[j]?=cs[j]?:=by rw[z5,List.getElem?_take,if_pos (by omega)];simp
     rw[e1,BE,List.getElem?_map,AL J8,getElem!_pos _ j hj];simp
    have hc:=hC g cap xs w hH (Di z3) hb;rw[List.length_map];refine hc.mono ?_;rintro e w' ⟨rfl,n,os,rfl⟩;have E2:=zJc (q:=n) (os:=os) (d:=(HQ xs).toArray) z3;have Bg:=zMp (w:=w) (b:=g) (q:=n) (os:=os) (d:=(HQ xs).toArray);have B4:=zvW C (HQ xs) [] (by rw[GU,z4];simpa using z1);rw[AG,GU]at B4;change Mod [g] w (grow (putRow encStr (Sort.ahead w n) g 0 (xs.mergeSort λx y=>decide (x<=y)).toArray) os)at Bg;change (grow (putRow encStr (Sort.ahead w n) g 0 (xs.mergeSort λx y=>decide (x<=y)).toArray) os).heap[g]?=_ at E2;generalize grow (putRow encStr (Sort.ahead w n) g 0 (xs.mergeSort λx y=>decide (x<=y)).toArray) os=w' at Bg E2;have Bj:Dd w' el 1 (.slice (some ⟨g,0,none⟩) xs.length cap) (.sl ((HQ xs).map Cy)) [g] []:=by
     refine⟨_,rfl,λy hy=> ?_,by omega, .inr ⟨g,cap,_,by simp[GU],by rw[List.length_map,GU];omega,z2,E2,by simp[Go.Sort.putCells,z4],rfl,?_,?_⟩⟩
     ·obtain⟨x,_,rfl⟩:=List.mem_map.1 hy;rfl
     ·rw[List.length_map,GU,Nat.mul_one,B4];intro u hu;obtain⟨x,_,rfl⟩:=List.mem_map.1 hu;rfl
     ·rw[List.length_map,GU,Nat.mul_one,B4];exact rE _ λs hs=>ztT p3 s (hp.mem_iff.1 hs)
    refine⟨_,rfl,⟨⟨.tup [],[.sl ((HQ xs).map Cy)],[],[],[],[g],by simp,?_,?_,by simp,?_,by simp⟩,Bg.weaken λb hb=> .inl (by simpa using hb)⟩⟩
    ·rw[g5];exact⟨[],[],rfl,rfl, .nil⟩
    ·rw[g4,Cr,AG,hm];have GK:FO Tryz.prog w' (Bc Tryz.prog t) [true] [.slice (some ⟨g,0,none⟩) xs.length cap] [.sl ((HQ xs).map Cy)] [] [g]:=by
      rw[g8];have:=FO.own (P:=Tryz.prog) (w:=w') (t:=t) (ts:=[]) (fl:=[true]) (us:=[]) (ys:=[]) rfl g9 (.inl ⟨g10,rfl⟩) (y:= .sl ((HQ xs).map Cy)) (u:= .slice (some ⟨g,0,none⟩) xs.length cap) (top:=[g]) (by rw[g11];exact Bj) .nil;simpa using this
     have:=DY.mu (P:=Tryz.prog) (w:=w') (t:=t) (ts:=[]) (ms:=[.mu [true]]) (own:=[true]) (v:= .slice (some ⟨g,0,none⟩) xs.length cap) (vs:=[]) (us:=[.slice (some ⟨g,0,none⟩) xs.length cap]) (ys:=[.sl ((HQ xs).map Cy)]) (y:= .sl ((HQ xs).map Cy)) (bs:=[]) (f:=[]) (o1:=[g]) (o:=[]) rfl (by rw[g7];simp) GK .nil;simpa using this
    ·intro b hb;simp only[List.nil_append,List.mem_singleton]at hb;subst hb;exact⟨.inl (by simp),Di E2⟩
 ·cases hk
noncomputable def aO(xs:List (List UInt8)):Option (Unit × List (List UInt8)):=Ar (xs.length<4611686018427387904) (some ((),HQ xs))
theorem zlB(a0:List (List UInt8))(r:Unit × List (List UInt8))(h:aO a0=some r):Cj Tryz.prog BM 405 [.sl (a0.map Cy)] (.tup [.tup [], .sl (r.2.map Cy)]):=by obtain⟨hb,h⟩:=F4 h;cases h;exact zI1 (t:=26) (el:=9) (by kernel_rfl) (λblk cap zs w hH h1 h2=>Tryz.slices_Sort_string blk 0 cap zs w hH h1 h2) (λa cap w=>Tryz.slices_Sort_string_none a cap w) a0 hb
end Go.Proofs.YtlmjpjceiefpoaaGreatDoor
end

/- Parts of a proof, joined: DA, DB, MA, MB, OB, OG, QA, QO, MC, MD, QT, TF, HB, SP, HL, IA, IC, ID, IE, IF, IG, IB, SB, SW, SQ, NA, PK, SI, CM, SS. -/
import Derived.Test.YtndikjghnmhdmaaGreatD6
import Derived.Test.YtndikjghnmhdmaaGreatProg
import Derived.Test.YtndikjghnmhdmaaGreatChecked
import Derived.Shelf.Small.Bits
import Derived.Shelf.Small.Strs
import Derived.Shelf.Small.Wraps
import Derived.Shelf.Strconv.Itoa0
import Derived.Shelf.Strings.Search1
import Derived.Shelf.Sort.Plain
import Derived.Shelf.Slices.Turned
import Derived.Shelf.Slices.CompactS
import Derived.Ground.Names2Prog
import Derived.Shelf.Slices.SearchI
import Derived.Shelf.Slices.Cells
import Derived.Shelf.Slices.In.SortNone
import Derived.Laws.CopyRow
import Derived.Lib.AppendZerosOnto
import Derived.Lib.Overlaps
import Derived.Lib.SliceRun
import Derived.Lib.SlicesDelete
import Derived.Shelf.RegionOpenPlain
import Derived.Deep.RegionLaw
import Derived.Shelf.GgSortFunc.InsertionK
import Derived.StillTailTactics
import Derived.Deep.QuietTactic
import Derived.Sort.Grow
import Derived.Shelf.SlGeneric
import Derived.Shelf.SlLaysF0
import Derived.Ground.SlsfProg
import Derived.Shelf.SlSortCmp.NoneTotal
import Derived.Lib.RowBridge
set_option linter.unusedVariables false
set_option linter.unusedSimpArgs false
section
namespace Go.Proofs.YtndikjghnmhdmaaGreat
open Go.RowKit
noncomputable def fX(t:TypeId):List Bool:=(A2 Tryz.prog t).map λu=>match Co Tryz.prog u with|some e=>B4 Tryz.prog e|none=>false
noncomputable def tB(u:TypeId):List Bool:=fX u
noncomputable def xI(fn:Func):GR:={bj:=fn.params.toList.map λt=>match J4 Tryz.prog t with|some u=> .bx (tB u) (tB u)|none=> .ro,res:=fn.resultTypes.toList.flatMap fX}
noncomputable def zzY(f:Nat):Option GR:=
 match f with
 |7=>some {bj:=[.ro, .ro],res:=[]}
 |13=>some {bj:=[.ro],res:=[]}
 |18=>some {bj:=[.mu [true], .ro],res:=[]}
 |24=>some {bj:=[.ro, .ro],res:=[]}
 |25=>some {bj:=[.ro, .ro, .ro, .ro],res:=[]}
 |31=>some {bj:=[.va [true], .ro],res:=[true]}
 |32=>some {bj:=[.va [true], .ro],res:=[true],wn:=true}
 |36=>some {bj:=[.ro],res:=[]}
 |42=>some {bj:=[.mu [true], .ro, .ro, .ro, .ro],res:=[]}
 |50=>some {bj:=[.ro, .ro],res:=[]}
 |59=>some {bj:=[.va [true], .ro, .va [true]],res:=[true]}
 |64=>some {bj:=[.ro, .ro],res:=[]}
 |70=>some {bj:=[.mu [true], .ro, .ro, .ro],res:=[]}
 |71=>some {bj:=[.mu [true], .ro, .ro, .ro],res:=[]}
 |72=>some {bj:=[.mu [true], .ro, .ro, .ro],res:=[]}
 |73=>some {bj:=[.mu [true], .ro, .ro, .ro],res:=[]}
 |74=>some {bj:=[.mu [true], .ro, .ro, .ro],res:=[]}
 |75=>some {bj:=[.mu [true], .ro, .ro, .ro],res:=[]}
 |76=>some {bj:=[.mu [true], .ro, .ro, .ro, .ro],res:=[]}
 |77=>some {bj:=[.mu [true], .ro, .ro, .ro, .ro],res:=[]}
 |103=>some {bj:=[.ro, .ro],res:=[]}
 |108=>some {bj:=[.ro, .ro, .ro],res:=[true,false],dp:=true,wn:=true}
 |112=>some {bj:=[.ro],res:=[]}
 |121=>some {bj:=[.mu [true], .ro, .ro, .ro, .ro],res:=[]}
 |124=>some {bj:=[.mu [true], .ro, .bx [false] [false], .ro],res:=[]}
 |125=>some {bj:=[.mu [true], .ro, .ro, .ro, .bx [false] [false], .ro],res:=[]}
 |139=>some {bj:=[.ro],res:=[true],dp:=true}
 |143=>some {bj:=[.ro, .ro],res:=[false],lo:=[false,true]}
 |145=>some {bj:=[.mu [true]],res:=[]}
 |146=>some {bj:=[.va [true]],res:=[true]}
 |149=>some {bj:=[.mu [true], .ro, .ro, .bx [false] [false], .ro],res:=[]}
 |151=>some {bj:=[.ro],res:=[]}
 |155=>some {bj:=[.mu [true]],res:=[]}
 |158=>some {bj:=[.ro, .ro],res:=[]}
 |161=>some {bj:=[.mu [true], .ro, .ro, .ro],res:=[]}
 |164=>some {bj:=[.mu [true], .ro, .ro],res:=[]}
 |165=>some {bj:=[.mu [true], .ro, .ro],res:=[]}
 |166=>some {bj:=[.mu [true], .ro, .ro],res:=[]}
 |167=>some {bj:=[.mu [true], .ro, .ro],res:=[]}
 |168=>some {bj:=[.mu [true], .ro, .ro],res:=[]}
 |169=>some {bj:=[.mu [true], .ro, .ro],res:=[]}
 |171=>some {bj:=[.mu [true], .ro, .ro, .ro],res:=[]}
 |172=>some {bj:=[.mu [true], .ro, .ro, .ro],res:=[]}
 |174=>some {bj:=[.mu [true], .ro, .ro, .ro],res:=[]}
 |175=>some {bj:=[.mu [true], .ro, .bx [false] [false]],res:=[]}
 |176=>some {bj:=[.mu [true], .ro, .ro, .ro, .bx [false] [false]],res:=[]}
 |177=>some {bj:=[.mu [true], .ro, .ro, .bx [false] [false]],res:=[]}
 |_=>none
noncomputable def jF(f:Nat):Option GR:=match Tryz.prog.funcs[f]? with
 |some fn=>some ((zzY f).getD (xI fn))
 |none=>none
noncomputable def Cd:BN:={f:=jF}
theorem xT:Tryz.prog.follows .mixedOrders=true:=by kernel_rfl
theorem x5:Tryz.prog.funcs.size<1000000:=by
 have:(decide (Tryz.prog.funcs.size<1000000))=true:=by kernel_rfl
 exact of_decide_eq_true this
theorem K2(f:Nat)(s:GR)(h:Cd f=some s):f<1000000:=by
 simp only[Cd]at h;unfold jF at h;split at h
 ·rename_i fn hf;have:=(Array.getElem?_eq_some_iff.1 hf).1;exact Nat.lt_trans this x5
 ·cases h
def Uz(P:Program)(sg:BN)(f:Nat)(xs:List AV)(r:AV):Bool:=
 match P.funcs[f]?,sg f with
 |some fn,some s=> !(fn.name== "runtime.NumGoroutine")&&JN P fn s r&&xs.length==fn.params.size+fn.nfree
 |_,_=>false
abbrev Den(t:Tr)(r:AV)(xs:List AV):Prop:=t.den (Cg Tryz.prog Cd) (λr'=>r'=r) (λ_ _ _ _=>False) [] xs
theorem Ji{f:Nat}{t:Tr}{xs:List AV}{r:AV}(hc:TW Tryz.prog Cd f=some t)(hk:Uz Tryz.prog Cd f xs r=true)(hd:Den t r xs):Cg Tryz.prog Cd f xs r:=by
 unfold Uz at hk;split at hk
 ·rename_i fn s hf hs;simp only[Ab,Br,AJ]at hk;unfold Cg;rw[if_pos (K2 f s hs)];exact⟨s,hs,zw1 xT K2 hf hs hk.1.1 hc hk.1.2 hk.2 hd⟩
 ·cases hk
section
variable {Rt:Nat->List AV->AV->Prop} {R:AV->Prop} {L:LK} {js:List JK} {ρ:List AV}
theorem pZ{i:EL}{b k:Tr}(hL:Jj L)(I:Nat->List AV->Prop){m:Nat}(h0:I m (i.den ρ))(FT:∀m vs,I m vs->b.den Rt R L ((λus=> ∃m',m'<m/\I m' us)::(λus=>k.den Rt R L js (ρ++us))::js) (ρ++vs)):(Tr.loop i b k).den Rt R L js ρ:=by
 have hb:∀W W':JK,(∀vs,W vs->W' vs)-> ∀vs,b.den Rt R L (W::(λus=>k.den Rt R L js (ρ++us))::js) (ρ++vs)->b.den Rt R L (W'::(λus=>k.den Rt R L js (ρ++us))::js) (ρ++vs):=
  λW W' hW vs hv=>b.ez hL hv (.cons hW (DZ.refl _))
 have mono:∀n vs,Is (λW vs=>b.den Rt R L (W::(λus=>k.den Rt R L js (ρ++us))::js) (ρ++vs)) n vs-> ∀n',n<=n'->Is (λW vs=>b.den Rt R L (W::(λus=>k.den Rt R L js (ρ++us))::js) (ρ++vs)) n' vs:=by
  intro n
  induction n with
  |zero=>intro vs h;exact h.elim
  |succ n ih=>
   intro vs h n' hn;cases n' with
   |zero=>omega
   |succ n'=>exact hb _ _ (λus hu=>ih us hu n' (by omega)) vs h
 have key:∀m vs,I m vs->Is (λW vs=>b.den Rt R L (W::(λus=>k.den Rt R L js (ρ++us))::js) (ρ++vs)) (m+1) vs:=by
  intro m
  induction m using Nat.strongRecOn with
  |_ m ih=>intro vs hI;exact hb _ _ (λus ⟨m',hm,hu⟩=>mono _ _ (ih m' hm us hu) m (by omega)) vs (FT m vs hI)
 exact⟨m+1,key m _ h0⟩
theorem mB:Jj (λ_ _ _ _=>False):=λ_ _ _ _ _ _ h=>h
end
@[simp] theorem zBb(ρ:List AV):Bg ρ []↔True:=⟨λ_=>trivial,λ_=>ED ρ⟩
@[simp] theorem zAV(ρ:List AV)(x:E)(b:Bool)(gs:Gd):Bg ρ ((x,b)::gs)↔x.den ρ= .bool b/\Bg ρ gs:=
 ⟨λh=>⟨h (x,b) (by simp),λg hg=>h g (by simp[hg])⟩,λh g hg=>by rcases Ad.1 hg with rfl|hg;exact h.1;exact h.2 g hg⟩
attribute [simp] E.den EL.den Cn.den AV.fld AV.proj AV.deref AV.len AV.slen AV.idx AV.nth AV.ec AV.ib AV.conv AV.bin AV.bbin AV.sbin AV.app AV.cx AV.rep
@[simp] theorem zzw(cs:List AV):(AV.agg cs).cells=cs:=rfl
@[simp] theorem zAb(k:IntKind)(n:Int):(AV.int k n).cells=[.int k n]:=rfl
@[simp] theorem zzp(b:Bool):(AV.bool b).cells=[.bool b]:=rfl
@[simp] theorem zzz(s:List UInt8):(AV.str s).cells=[.str s]:=rfl
@[simp] theorem zAp(xs:List AV):(AV.sl xs).cells=[.sl xs]:=rfl
@[simp] theorem zzs(k:IntKind)(n:Int):(AV.int k n).scalar=true:=rfl
@[simp] theorem zy6(b:Bool):(AV.bool b).scalar=true:=rfl
@[simp] theorem zzo(s:List UInt8):(AV.str s).scalar=true:=rfl
@[simp] theorem zAF(b c d:Bool):AV.cond (.bool b) (.bool c) (.bool d)= .bool (bif b then c else d):=by cases b<;>rfl
theorem zrt{y:AV}(h:y.scalar=true):y.cells=[y]:=by cases y<;>first|rfl|simp[AV.scalar]at h
theorem CS{n:Int}(h1: -9223372036854775808<=n)(h2:n<=9223372036854775807):IntKind.i64.wrap n=n:=by rw[IntKind.wrap_i64];omega
end Go.Proofs.YtndikjghnmhdmaaGreat
end
section
namespace Go.Proofs.YtndikjghnmhdmaaGreat
open Go.RowKit
section
variable {Rt:Nat->List AV->AV->Prop} {R:AV->Prop} {L:LK} {js:List JK} {ρ:List AV}
theorem D5{gs:Gd}{c:Cn}{k:Tr}(h:Bg ρ gs->c.den ρ)(hk:k.den Rt R L js ρ):(Tr.bu gs c k).den Rt R L js ρ:=⟨h,hk⟩
theorem dW{gs:Gd}{f:Nat}{args:EL}{k:Tr}{r:AV}(h:Bg ρ gs->Rt f (args.den ρ) r)(hk:k.den Rt R L js (ρ++ [r])):(Tr.call gs (.inl f) args k).den Rt R L js ρ:=⟨r,h,hk⟩
theorem oH{gs:Gd}{x:E}{args:EL}{k:Tr}{r:AV}(h:Bg ρ gs-> ∃g caps,x.den ρ= .fn g caps/\Rt (1000000+g) (args.den ρ++caps) r/\ ∀y∈r.cells,y.scalar=true)(hk:k.den Rt R L js (ρ++ [r])):(Tr.call gs (.inr x) args k).den Rt R L js ρ:=⟨r,h,hk⟩
theorem Il{c:E}{a b:Tr}{t:Bool}(h:c.den ρ= .bool t)(ha:t=true->a.den Rt R L js ρ)(hb:t=false->b.den Rt R L js ρ):(Tr.ite c a b).den Rt R L js ρ:=⟨t,h,ha,hb⟩
theorem NY{r:E}(h:R (r.den ρ)):(Tr.ret r).den Rt R L js ρ:=h
theorem Wz{es:EL}{j:JK}(h:j (es.den ρ)):(Tr.jmp 0 es).den Rt R L (j::js) ρ:=h
theorem pU{es:EL}{i j:JK}(h:j (es.den ρ)):(Tr.jmp 1 es).den Rt R L (i::j::js) ρ:=h
end
def qU(cn:Nat)(xs:List AV):Prop:= ∀x∈xs,∃cs,x= .agg cs/\cs.length=cn
theorem qU.at{cn:Nat}{xs:List AV}(h:qU cn xs){q:Nat}(hq:q<xs.length):∃cs,xs[q]= .agg cs/\cs.length=cn:=h _ (AO hq)
section
variable {Rt:Nat->List AV->AV->Prop} {R:AV->Prop} {L:LK} {js:List JK} {ρ:List AV} {α β σ τ:Type}
theorem zyP{x:E}{sz:Nat}{xs:List α}(f:α->AV)(hx:x.den ρ= .sl (xs.map f))(hf:∀y,(f y).cells.length=sz/\ ∀z∈(f y).cells,z.scalar=true):Cn.den ρ (.flatS x sz):=⟨_,hx,by simp only[List.mem_map];rintro _ ⟨y,_,rfl⟩;exact hf y⟩
end
@[simp] def Ux(n:Int):AV:= .int .u8 n
@[simp] def Di(x:List UInt8):AV:= .str x
attribute [simp] CG Qg AV.sidx AV.aeq AV.leq AV.seq AV.sk AV.cz AV.bytes AV.text
end Go.Proofs.YtndikjghnmhdmaaGreat
end
section
namespace Go.Proofs.YtndikjghnmhdmaaGreat
open Go.RowKit
section
variable {P:Program} {w:World}
theorem Dt.gx{ts:List TypeId}{vs:List Value}{xs:List AV}{rf lf hs:List Nat}(h:Dt P w ts [] [] vs xs rf lf hs):∀(ms:List PM) (lo:List Bool),(∀m∈ms,m= .ro)->Dt P w ts ms lo vs xs rf lf hs:=by
 generalize hm:([]:List PM)=m0 at h;generalize hn:([]:List Bool)=n0 at h
 induction h with
 |nil=>intro ms lo _;exact .nil
 |lent h1 _ _ _ _=>subst hn;cases h1
 | @cons t ts ms' lo' v vs x xs f h rf lf hs A5 _ ih=>
  subst hm;subst hn;intro ms lo Es;refine .cons ?_ (ih rfl rfl ms.tail lo.tail λm hm=>Es m (List.mem_of_mem_tail hm));have:ms.headD .ro= .ro:=by cases ms with|nil=>rfl|cons m ms=>exact Es m (by simp)
  rw[this];exact A5
 |free h1 _ ih=>subst hm;subst hn;intro ms lo Es;exact .free h1 (ih rfl rfl ms.tail lo.tail λm hm=>Es m (List.mem_of_mem_tail hm))
theorem Dg.gx{ts:List TypeId}{ms:List PM}{vs:List Value}{Bs:List AV}{f o:List Nat}(h:Dg P w ts ms vs Bs f o)(Es:∀m∈ms,m= .ro):Dg P w ts [] vs Bs f o:=by
 have hd:∀{ms:List PM},(∀m∈ms,m= .ro)->ms.headD .ro= .ro:=by intro ms h;cases ms with|nil=>rfl|cons m ms=>exact h m (by simp)
 induction h with
 |nil=>exact .nil
 |ro _ _ ih=>exact .ro rfl (ih λm hm=>Es m (List.mem_of_mem_tail hm))
 |va h9 _ _=>rw[hd Es]at h9;cases h9
 |mu h9 _ _ _ _=>rw[hd Es]at h9;cases h9
 |bx h9 _ _ _ _ _ _ _ _=>rw[hd Es]at h9;cases h9
end
noncomputable def eY(f:Nat)(r:AV):Bool:=
 match Tryz.prog.funcs[f]?,Cd f with
 |some fn,some s=>s.bj.all (λm=>match m with| .ro=>true|_=>false)&&s.ft.isEmpty&&(match fn.resultTypes.toList with| [t]=> !FW Tryz.prog t s.res|_=>false)&&JN Tryz.prog fn {bj:=[],res:=[]} r
 |_,_=>false
theorem zuJ{f:Nat}{xs:List AV}{r:AV}(h:Cg Tryz.prog Cd f xs r)(hp:eY f r=true):Cg Tryz.prog Cd (1000000+f) xs r:=by
 unfold eY at hp;split at hp
 ·rename_i fn s hf hs;simp only[Ab,A7]at hp;obtain⟨⟨⟨h1,Cr⟩,h2⟩,h3⟩:=hp;have Cr:s.ft=[]:=by simpa using Cr
  have DS:∀m∈s.bj,m= .ro:=λm hm=>by
   have:=h1 m hm;split at this
   ·rfl
   ·cases this
  unfold Cg at h ⊢;rw[if_pos (K2 f s hs)]at h;rw[if_neg (by omega),Nat.add_sub_cancel_left];obtain⟨s',Ba,fn',Rf,hb,hn,_,hl,_,hc⟩:=h;rw[hs]at Ba;cases Ba;rw[hf]at Rf;cases Rf;rw[Cr]at hc;refine⟨fn,hf,hb,hn,h3,hl,by simp,λw vs rf lf Ba Ah hd uI BZ DR=>(hc w vs rf lf Ba (Ah.gx _ _ DS) hd uI BZ DR).mono ?_⟩;rintro e w' ⟨v,rfl,⟨R,Bs,f1,o1,f2,o2,e1,e2,e3,e4,e5,e6⟩,hm⟩;rw[Cr]at e3;refine⟨v,rfl,⟨R,Bs,f1,o1,f2,o2,e1,?_,e3.gx DS,e4,e5,e6⟩,hm⟩;unfold Jq at e2 ⊢;split at h2
  ·rename_i t ht;rw[ht]at e2 ⊢;simp only at e2 ⊢;unfold Eb at e2 ⊢;have h2:FW Tryz.prog t s.res=false:=by simpa using h2
   rw[if_neg (by rw[h2];simp)]at e2;rw[if_neg (by simp[FW])];exact e2
  ·cases h2
 ·cases hp
section
variable {Rt:Nat->List AV->AV->Prop} {R:AV->Prop} {L:LK} {js:List JK} {ρ:List AV}
theorem zxB{i:EL}{b k:Tr}(hL:Jj L)(n:Nat)(st:Nat->List AV)(J:Nat->Prop)(hJ:J 0)(h0:i.den ρ=st 0)(hb:∀q,q<=n->J q-> ∀W:JK,(q<n->J (q+1)->W (st (q+1)))->b.den Rt R L (W::(λus=>k.den Rt R L js (ρ++us))::js) (ρ++st q)):(Tr.loop i b k).den Rt R L js ρ:=by refine pZ hL (λm vs=> ∃q,q+m=n/\vs=st q/\J q) (m:=n) ⟨0,by omega,h0,hJ⟩ ?_;rintro m vs ⟨q,hq,rfl,hj⟩;exact hb q (by omega) hj _ λAL H5=>⟨m-1,by omega,q+1,by omega,rfl,H5⟩
end
def Qz(cn:Nat):Tr:=
 .bu [] (.dfd (.len (.var 0)))<|
 .loop (.cons (.int .i64 (0)) .nil) (
  .bu [] (.dfd (.bin .lss (.var 2) (.len (.var 0))))<|
  .ite (.bin .lss (.var 2) (.len (.var 0))) (
  .bu [] (.inb (.var 2) (.var 0) cn)<|
  .call [] (.inr (.var 1)) (.cons (.fld (.idx (.var 0) (.var 2)) 0 cn true) .nil)<|
  .ite (.var 3) (
   .ret (.var 2)) (
   .bu [] (.dfd (.bin .add (.var 2) (.int .i64 (1))))<|
   .jmp 0 (.cons (.bin .add (.var 2) (.int .i64 (1))) .nil))) (
  .jmp 1 .nil)) (
  .ret (.int .i64 (-1)))
def FY{α:Type}(p:α->Option Bool):List α->Int->Option Int
 | [],_=>some (-1)
 |x::xs,i=>(p x).bind λb=>if b=true then some i else FY p xs (i+1)
noncomputable def Jb{α:Type}(xs:List α)(p:α->Option Bool):Option Int:=req (xs.length<=9223372036854775806) (FY p xs 0)
noncomputable def EJ{α:Type}(xs:List α)(p:α->Option Bool):Option Bool:=(Jb xs p).bind λi=>some (decide (i>=0))
noncomputable def eH{α:Type}(bytes:Nat)(xs:List α):Option (List α):=req ((xs.length:Int)*bytes<=140737488355328/\(xs.length:Int)<=140737488355328) (some xs)
theorem zuT{α:Type}{p:α->Option Bool}{l:List α}{r:Int}{q:Nat}(hq:q<l.length)(h:FY p (l.drop q) q=some r):∃b,p l[q]=some b/\(b=true->r=q)/\(b=false->FY p (l.drop (q+1)) ((q+1:Nat):Int)=some r):=by
 rw[Be hq]at h;obtain⟨b,hb,h⟩:=J0 h;refine⟨b,hb,?_,?_⟩
 ·rintro rfl;simpa using h.symm
 ·rintro rfl;simpa using h
theorem WN{α:Type}{av:α->AV}{l:List α}{p:α->Option Bool}{cn g:Nat}{caps:List AV}{r:Int}(hs:∀x,∃cs,av x= .agg cs/\cs.length=cn)(h:Jb l p=some r)(hf:∀x b,p x=some b->Cg Tryz.prog Cd (1000000+g) (av x::caps) (.bool b)):Den (Qz cn) (.int .i64 r) [.sl (l.map av), .fn g caps]:=by
 obtain⟨hn,h⟩:=GP h;unfold Den Qz;refine D5 (by simp) ?_;refine zxB mB l.length (λq=> [.int .i64 q]) (λq=>FY p (l.drop q) q=some r) (by simpa using h) (by simp) λq hq hJ W hW=> ?_;by_cases AL:q<l.length
 ·obtain⟨cs,hc,hl⟩:=hs l[q];obtain⟨b,hb,Hj,GX⟩:=zuT AL hJ;refine D5 (by simp[CG]) (Il (t:=true) (by simp[CG,AL]) (λ_=> ?_) (by simp));refine D5 (λ_=>⟨.i64,q,l.length,by simp,by omega,by simp,by omega,by simp[AL,hc,hl]⟩) (oH (r:= .bool b) (λ_=>⟨g,caps,by simp,?_,by simp⟩) ?_)
  ·have:=hf l[q] b hb;rw[hc]at this;simpa[AL,hc,<-hl]using this
  ·cases b with
   |true=>exact Il (t:=true) (by simp) (λ_=>NY (by simp[Hj rfl])) (by simp)
   |false=>refine Il (t:=false) (by simp) (by simp) λ_=>D5 (by simp[CG]) (Wz ?_);have:=hW AL (GX rfl);simpa[CG,CS (n:=(q:Int)+1) (by omega) (by omega)]using this
 ·have Jz:q=l.length:=by omega
  subst Jz;have hr:r= -1:=by simpa[FY]using hJ.symm
  refine D5 (by simp[CG]) (Il (t:=false) (by simp[CG]) (by simp) λ_=>pU ?_);exact NY (by simp[hr])
def Qx(f:Nat):Tr:=
 .call [] (.inl f) (.cons (.var 0) (.cons (.var 1) .nil))<|
 .bu [] (.dfd (.bin .geq (.var 2) (.int .i64 (0))))<|
 .ret (.bin .geq (.var 2) (.int .i64 (0)))
theorem WK{α:Type}{l:List α}{p:α->Option Bool}{f:Nat}{x y:AV}{r:Bool}(h:EJ l p=some r)(hf:∀i,Jb l p=some i->Cg Tryz.prog Cd f [x,y] (.int .i64 i)):Den (Qx f) (.bool r) [x,y]:=by obtain⟨i,hi,h⟩:=J0 h;unfold Den Qx;refine dW (λ_=>by simpa using hf i hi) (D5 (by simp[CG]) (NY ?_));simp only[Ac]at h;simp[CG,<-h]
def fD(bytes sz:Nat):Tr:=
 .bu [] (.dfd (.len (.var 0)))<|
 .bm [] (.var 0)<|
 .ite (.var 1) (
  .ret (.lst .nil)) (
  .bu [] (.room (.lst .nil) (.var 0) bytes)<|
  .bu [] (.flatS (.var 0) sz)<|
  .ret (.app (.lst .nil) (.var 0)))
theorem zvH{α:Type}{av:α->AV}{xs r:List α}{bytes sz:Nat}(hs:∀x,(av x).cells.length=sz/\ ∀z∈(av x).cells,z.scalar=true)(h:eH bytes xs=some r):Den (fD bytes sz) (.sl (r.map av)) [.sl (xs.map av)]:=by
 obtain⟨hq,h⟩:=GP h;cases h;unfold Den fD;refine D5 (by simp) λb hb=> ?_;cases b with
 |true=>have:=hb (by simp) rfl;exact Il (t:=true) (by simp) (λ_=>NY (by simpa using this.symm)) (by simp)
 |false=>exact Il (t:=false) (by simp) (by simp) λ_=>D5 (λ_=>⟨0,xs.length,by simp,by simp,by simpa using hq.1,by simpa using hq.2⟩) (D5 (λ_=>zyP (xs:=xs) av (by simp) hs) (NY (by simp)))
end Go.Proofs.YtndikjghnmhdmaaGreat
end
section
namespace Go.Proofs.YtndikjghnmhdmaaGreat
open Go.ChangeShapes Go.WideShapes Go.ChangeAt Go.RowKit
theorem zwQ{P:Program}{w:World}:Dt P w [] [] [] [] [] [] [] []:= .nil
theorem zu8{P:Program}{w:World}{t:TypeId}{ts:List TypeId}{v:Value}{vs:List Value}{x:AV}{xs:List AV}{f rf:List Nat}(h:Rd w [v] [x] f)(k:Dt P w ts [] [] vs xs rf [] []):Dt P w (t::ts) [] [] (v::vs) (x::xs) (f++rf) [] []:=
 Dt.cons (h:=[]) (hs:=[]) (ms:=[]) (lo:=[]) ⟨h,rfl⟩ k
theorem zwU{P:Program}{sg:BN}{f:Nat}{fn:Func}{t:TypeId}{xs:List AV}(h:Cg P sg f xs (.bool true))(hf:f<1000000){s:GR}(hs:sg f=some s)(Cr:s.ft=[])(DS:∀m∈s.bj,m= .ro)(C6:FW P t s.res=false)(Hn:P.funcs[f]?=some fn)(hr:fn.resultTypes.toList=[t])
  {w:World} {vs:List Value} {rf:List Nat} (ha:Dt P w fn.params.toList [] [] vs xs rf [] []) (DR:KE.n<=w.heap.size/\KE.K w):
  Calls P f vs.toArray w λe w'=>e= .returned (.bool true)/\Below w.heap.size w w':=by
 unfold Cg at h;rw[if_pos hf]at h;obtain⟨s',Ba,fn',IJ,_,_,_,_,_,hc⟩:=h;rw[hs]at Ba;obtain rfl:=Option.some.inj Ba;rw[Hn]at IJ;obtain rfl:=Option.some.inj IJ;refine(hc w vs rf [] [] (by rw[Cr,AB];exact ha.gx _ _ DS) (by simp) (by simp) (by simp) ⟨DR.1,DR.2,by simp⟩).mono λe w' ⟨v,he,hp⟩=> ?_;obtain⟨⟨R,bs,f1,o1,f2,o2,hR,AT,_⟩,hm⟩:=hp;have tU:R= .bool true:=by
  cases bs with
  |nil=>exact hR.symm
  |cons=>cases hR
 subst tU;rw[hr]at AT;have h2:Eb P w' t s.res v (.bool true) f1 o1:=AT;unfold Eb at h2;rw[C6]at h2;obtain⟨h3,_⟩:=h2;have:v= .bool true:=by cases h3;rfl
 subst this;exact⟨he,hm.below⟩
section
variable {P:Program} {t:TypeId} {Q:List AV->Prop} {H:Type} {enc:TypeId × Value->H} {w:World} {spare:Nat->Bool} {held:Bool} {v:Value} {d:DataW H} {p:List MemPlace} {r:Reach} {base:Nat}
theorem zyI(hO:GQ P t Q)(hc:v.cells= #[v])(h:DataW.Trod enc P w 0 spare held t v d p):∃x f,Rd w [v] [x] f/\Q [x]:=by
 obtain⟨n,h⟩:=h;rw[hc]at h;obtain⟨_,_,xs,f,hr,hq⟩:=hO.2 _ _ _ _ _ _ _ _ h;have hl:=hr.len
 match xs,hl with
 | [x],_=>exact⟨x,f,hr,hq⟩
theorem zuu{e:TypeId}(hO:GQ P t Q)(ht:P.underlying t=some (.slice e))(hv:Value.okWide P w r base t v)(h:DataW.Trod enc P w 0 spare held t v d p):∃x f,Rd w [v] [x] f/\Q [x]:=by obtain⟨a,l,c,rfl⟩:=okWide_slice ht hv;exact zyI hO rfl h
end
theorem zz5{a b:Bool}(ha:a=true)(hb:b=true):(a&&b)=true:=by rw[ha,hb];rfl
def QF(n:Int):Prop:=0<=n/\n<=255
def Zb{α:Type}(ok:α->Prop)(l:List α):Prop:=l.length<=9223372036854775807/\ ∀x∈l,ok x
theorem xZ{n:Int}(h:EX .u8 n):QF n:=by unfold EX at h;simp only[IntKind.wrap,IntKind.bits,IntKind.signed]at h;unfold QF;simp at h;omega
section
variable {P:Program} {t e:TypeId} {α:Type} {ok:α->Prop} {av:α->AV}
theorem xY(ht:P.underlying t=some (.int .u8))(hc:P.cellsOf t=1):GQ P t λxs=> ∃n,QF n/\xs=[Ux n]:=
 (zyj ht hc).mono λ_ ⟨n,h,e⟩=>⟨n,xZ h,e⟩
theorem o9:∀{ys:List AV},(∀y∈ys,Js false (λxs=> ∃c,ok c/\xs=[av c]) y)-> ∃l:List α,(∀c∈l,ok c)/\ys=l.map av
 | [],_=>⟨[],by simp,rfl⟩
 |y::ys,h=>by obtain⟨l,hl,rfl⟩:=o9 λz hz=>h z (List.mem_cons_of_mem _ hz);have h0:=h y (List.mem_cons_self ..);simp only[Js,Bv,if_false]at h0;obtain⟨_,c,hk,hc⟩:=h0;exact⟨c::l,by simpa using⟨hk,hl⟩,by simp at hc;simp[hc]⟩
theorem xM(ht:P.underlying t=some (.slice e))(hc:P.cellsOf t=1)(Lp:P.cellsOf e=1)(he:GQ P e λxs=> ∃c,ok c/\xs=[av c]):GQ P t λxs=> ∃l:List α,Zb ok l/\xs=[.sl (l.map av)]:=
 (zuA false ht hc he (.inr Lp)).mono λ_ ⟨ys,hl,hy,e⟩=>by obtain⟨l,hk,rfl⟩:=o9 hy;exact⟨l,⟨by simpa using hl,hk⟩,e⟩
end
end Go.Proofs.YtndikjghnmhdmaaGreat
end
section
namespace Go.Proofs.YtndikjghnmhdmaaGreat
open Go.RowKit
set_option maxRecDepth 100000
structure Ai where
 ab:Int
 aq:Int
 ae:List UInt8
 a7:List UInt8
 au:Bool
@[simp] def JG(x:Ai):AV:= .agg [.int .i64 x.ab, .int .i64 x.aq, .str x.ae, .str x.a7, .bool x.au]
structure Ak where
 ae:List UInt8
 a7:List UInt8
 au:Bool
@[simp] def W1(x:Ak):AV:= .agg [.str x.ae, .str x.a7, .bool x.au]
structure Bj where
 a8:Int
 ay:Int
 ab:Int
 bp:Int
 ao:List (List UInt8)
 af:List Ak
 cq:Bool
@[simp] def xE(x:Bj):AV:= .agg [.int .i64 x.a8, .int .i64 x.ay, .int .i64 x.ab, .int .i64 x.bp, .sl (x.ao.map Di), .sl (x.af.map W1), .bool x.cq]
structure B8 where
 ab:Int
 a7:List UInt8
 au:Bool
@[simp] def Ml(x:B8):AV:= .agg [.int .i64 x.ab, .str x.a7, .bool x.au]
structure Ag where
 ae:List UInt8
 al:List B8
@[simp] def fE(x:Ag):AV:= .agg [.str x.ae, .sl (x.al.map Ml)]
structure AU where
 ay:Int
 ab:Int
 bp:Int
 ao:List (List UInt8)
 af:List Ak
@[simp] def sA(x:AU):AV:= .agg [.int .i64 x.ay, .int .i64 x.ab, .int .i64 x.bp, .sl (x.ao.map Di), .sl (x.af.map W1)]
structure CH where
 ay:Int
 cq:Bool
 ab:Int
@[simp] def rZ(x:CH):AV:= .agg [.int .i64 x.ay, .bool x.cq, .int .i64 x.ab]
structure Am where
 aw:Int
 aj:List Ag
 ah:List AU
 az:List CH
@[simp] def zyR(x:Am):AV:= .agg [.int .i64 x.aw, .sl (x.aj.map fE), .sl (x.ah.map sA), .sl (x.az.map rZ)]
structure C8 where
 cg:Int
@[simp] def zw5(x:C8):AV:= .agg [.int .i64 x.cg]
structure DX where
 ab:Int
 bz:List Ak
@[simp] def zzH(x:DX):AV:= .agg [.int .i64 x.ab, .sl (x.bz.map W1)]
structure HX where
 cu:Int
 ga:Int
 bw:List Ai
@[simp] def zz1(x:HX):AV:= .agg [.int .i64 x.cu, .int .i64 x.ga, .sl (x.bw.map JG)]
end Go.Proofs.YtndikjghnmhdmaaGreat
end
section
namespace Go.Proofs.YtndikjghnmhdmaaGreat
open Go.ChangeShapes Go.WideShapes Go.ChangeAt Go.RowKit
set_option maxRecDepth 100000
theorem wZ:GQ Tryz.prog 5 λxs=> ∃n,QF n/\xs=[Ux n]:=xY Tryz.underlying5 (by kernel_rfl)
theorem wY:GQ Tryz.prog 22 λxs=> ∃l:List Int,Zb QF l/\xs=[.sl (l.map Ux)]:=xM Tryz.underlying22 (by kernel_rfl) (by kernel_rfl) wZ
end Go.Proofs.YtndikjghnmhdmaaGreat
end
section
namespace Go.Proofs.YtndikjghnmhdmaaGreat
open Go.RowKit
set_option maxRecDepth 100000
def JO{α:Type}(p:α->Option Bool):List α->Option (List α)
 | []=>some []
 |x::xs=>(p x).bind λb=>(JO p xs).bind λr=>some (if b=true then r else x::r)
noncomputable def VH{α:Type}(xs:List α)(p:α->Option Bool):Option (List α):=req (xs.length<=9223372036854775806) (JO p xs)
theorem nJ{α:Type}{p:α->Option Bool}(q:α->Bool):∀{l:List α},(∀x∈l,p x=some (q x))->JO p l=some (l.filter λx=> !q x)
 | [],_=>rfl
 |x::l,h=>by have e:=nJ (p:=p) q (l:=l) λy hy=>h y (List.mem_cons_of_mem _ hy);simp only[JO,h x (by simp),e,Aa,List.filter_cons];cases q x<;>rfl
theorem zqA{α:Type}{p:α->Option Bool}{l r:List α}{q:Nat}(hq:q<l.length)(h:JO p (l.drop q)=some r):∃b r',p l[q]=some b/\JO p (l.drop (q+1))=some r'/\r=if b=true then r' else l[q]::r':=by rw[Be hq]at h;obtain⟨b,hb,h⟩:=J0 h;obtain⟨r',hr,h⟩:=J0 h;exact⟨b,r',hb,hr,by simpa using h.symm⟩
theorem lS{α:Type}{p:α->Option Bool}:∀{l r:List α} (i:Int),JO p l=some r->(FY p l i=some (-1)/\r=l)\/ ∃k r',k<l.length/\FY p l i=some (i+(k:Nat))/\JO p (l.drop (k+1))=some r'/\r=l.take k++r'
 | [],r,i,h=>by cases h;exact .inl ⟨rfl,rfl⟩
 |x::l,r,i,h=>by
  obtain⟨b,hb,h⟩:=J0 h;obtain⟨r1,hr,h⟩:=J0 h;cases b with
  |true=>
   have:r1=r:=by simpa using h
   subst this;exact .inr ⟨0,r1,by simp,by simp[FY,hb],by simpa using hr,by simp⟩
  |false=>
   have:r=x::r1:=by simpa using h.symm
   subst this;rcases lS (i+1) hr with⟨h1,rfl⟩|⟨k,r',h1,h2,h3,rfl⟩
   ·exact .inl ⟨by simp[FY,hb,h1],rfl⟩
   ·exact .inr ⟨k+1,r',by simp;omega,by simp[FY,hb,h2];omega,by simpa using h3,by simp⟩
def s9(ck:List Cn)(k:Tr):Tr:=ck.foldr (λc k=> .bu [] c k) k
section
variable {Rt:Nat->List AV->AV->Prop} {R:AV->Prop} {L:LK} {js:List JK} {ρ:List AV}
theorem qR:∀{ck:List Cn} {k:Tr},(∀c∈ck,c.den ρ)->k.den Rt R L js ρ->(s9 ck k).den Rt R L js ρ
 | [],_,_,hk=>hk
 |c::ck,k,h,hk=>⟨λ_=>h c (by simp),qR (λq hq=>h q (by simp[hq])) hk⟩
theorem zwL{t k:Tr}{K:List AV->Prop}(hK:∀vs,K vs->k.den Rt R L js (ρ++vs))(ht:∀j:JK,(∀vs,K vs->j vs)->t.den Rt R L (j::js) ρ):(Tr.join t k).den Rt R L js ρ:=ht _ hK
end
def fL(fi cn:Nat)(g:Bool)(X:E)(ck:List Cn)(z:E):Tr:=
 .call [] (.inl fi) (.cons (.var 0) (.cons (.var 1) .nil))<|
 .bu [] (.dfd (.bin .eql (.var 2) (.int .i64 (-1))))<|
 .ite (.bin .eql (.var 2) (.int .i64 (-1))) (
  .ret (.var 0)) (
  .bu [] (.dfd (.bin .add (.var 2) (.int .i64 (1))))<|
  .loop (.cons (.var 2) (.cons (.bin .add (.var 2) (.int .i64 (1))) (.cons (.var 0) .nil))) (
  .bu [] (.dfd (.len (.var 5)))<|
  .bu [] (.dfd (.bin .lss (.var 4) (.len (.var 5))))<|
  .ite (.bin .lss (.var 4) (.len (.var 5))) (
   .join (
   .bu [] (.inb (.var 4) (.var 5) cn)<|
   s9 ck<|
   .call [] (.inr (.var 1)) (.cons X .nil)<|
   .bu [] (.dfd (.not (.var 6)))<|
   .ite (.not (.var 6)) (
    .bu [] (.inb (.var 3) (.var 5) cn)<|
    .bu [] (.flat X cn g)<|
    .bu [] (.flat (.fld (.idx (.var 5) (.var 3)) 0 cn g) cn g)<|
    .bu [] (.dfd (.bin .add (.var 3) (.int .i64 (1))))<|
    .jmp 0 (.cons (.bin .add (.var 3) (.int .i64 (1))) (.cons (.set (.var 5) (.var 3) (.put (.idx (.var 5) (.var 3)) 0 X g)) .nil))) (
    .jmp 0 (.cons (.var 3) (.cons (.var 5) .nil)))) (
   .bu [] (.dfd (.bin .add (.var 4) (.int .i64 (1))))<|
   .jmp 0 (.cons (.var 6) (.cons (.bin .add (.var 4) (.int .i64 (1))) (.cons (.var 7) .nil))))) (
   .jmp 1 (.cons (.var 3) (.cons (.var 5) .nil)))) (
  .bu [] (.win (.var 4) (.var 3) (.len (.var 4)))<|
  .bu [] (.win (.var 4) (.var 3) (.len (.var 4)))<|
  .bu [] (.dfd (.bin .sub (.len (.var 4)) (.var 3)))<|
  .bu [] (.win (.app (.win (.var 4) (.int .i64 (0)) (.var 3)) (.rep (.bin .sub (.len (.var 4)) (.var 3)) z)) (.int .i64 (0)) (.var 3))<|
  .ret (.win (.app (.win (.var 4) (.int .i64 (0)) (.var 3)) (.rep (.bin .sub (.len (.var 4)) (.var 3)) z)) (.int .i64 (0)) (.var 3))))
theorem zyh{α:Type}{av:α->AV}{l r:List α}{p:α->Option Bool}{fi cn g9:Nat}{g:Bool}{X z:E}{ck:List Cn}{caps:List AV}
  (hs:∀x,(av x).cells.length=cn/\(∀z∈(av x).cells,z.scalar=true)/\(g=true-> ∃cs,av x= .agg cs)/\(g=false->(av x).scalar=true)) (hcn:0<cn)
  (hX:∀(a b c d:AV) (j:Nat) (ys:List AV) (x:α) (tl:List AV),ys[j]?=some (av x)->X.den ([a,b,c,d, .int .i64 j, .sl ys]++tl)=av x)
  (Ki:∀(a b c d:AV) (j:Nat) (ys:List AV) (x:α),ys[j]?=some (av x)-> ∀q∈ck,q.den [a,b,c,d, .int .i64 j, .sl ys])
  (h:VH l p=some r) (hi:∀i,Jb l p=some i->Cg Tryz.prog Cd fi [.sl (l.map av), .fn g9 caps] (.int .i64 i))
  (hf:∀x b,p x=some b->Cg Tryz.prog Cd (1000000+g9) (av x::caps) (.bool b)):Den (fL fi cn g X ck z) (.sl (r.map av)) [.sl (l.map av), .fn g9 caps]:=by
 obtain⟨hn,h⟩:=GP h;unfold Den fL;have Kt:∀x y:α,(av y).cz 0 (av x) g=av x:=by
  intro x y;cases g with
  |false=>rfl
  |true=>
   obtain⟨cs,Bi⟩:=(hs x).2.2.1 rfl;have e1:=(hs x).1;have e2:=(hs y).1;have e3:(av x).cells=cs:=by rw[Bi];rfl
   have e4:(av y).cells.drop (0+cs.length)=[]:=List.drop_eq_nil_of_le (by rw[e2,<-e1,e3];omega);show AV.agg ((av y).cells.take 0++(av x).cells++(av y).cells.drop (0+(av x).cells.length))=av x;rw[e3,e4,AB,List.take_zero,List.nil_append,Bi]
 have Yc:∀x:α,(av x).fld 0 cn g=av x:=by
  intro x;cases g with
  |false=>have:=zrt ((hs x).2.2.2 rfl);simp[AV.fld,this]
  |true=>obtain⟨cs,Bi⟩:=(hs x).2.2.1 rfl;have e1:=(hs x).1;rw[Bi]at e1 ⊢;simp only[AV.fld,if_true,AV.cells]at e1 ⊢;rw[List.drop_zero,List.take_of_length_le (by omega)]
 have BP:∀(e:E) (ρ:List AV) (x:α),e.den ρ=av x->Cn.den ρ (.flat e cn g):=λe ρ x he=>by
  show(e.den ρ).cells.length=cn/\(∀y∈(e.den ρ).cells,y.scalar=true)/\(g=true-> ∃cs,e.den ρ= .agg cs)/\(g=false->(e.den ρ).scalar=true)
  rw[he];exact hs x
 rcases lS 0 h with⟨h1,rfl⟩|⟨k0,r0,Jw,h1,h2,rfl⟩
 ·refine dW (r:= .int .i64 (-1)) (λ_=>hi _ (by unfold Jb;rw[show req (r.length<=9223372036854775806) (FY p r 0)=FY p r 0 from if_pos hn];exact h1)) ?_;exact D5 (by simp[CG]) (Il (t:=true) (by simp[CG]) (λ_=>NY (by simp)) (by simp))
 ·refine dW (r:= .int .i64 k0) (λ_=>hi _ (by unfold Jb;rw[show req (l.length<=9223372036854775806) (FY p l 0)=FY p l 0 from if_pos hn,h1];simp)) ?_;have hw:IntKind.i64.wrap ((k0:Int)+1)=k0+1:=CS (by omega) (by omega);refine D5 (by simp[CG]) (Il (t:=false) (by simp[CG];try omega) (by simp) λ_=>D5 (by simp[CG]) ?_);refine pZ mB (λm vs=> ∃(j:Nat) (K zs r':List α),j+m=l.length/\vs=[.int .i64 K.length, .int .i64 j, .sl (zs.map av)]/\K.length<j/\zs.length=l.length/\zs.take K.length=K/\zs.drop j=l.drop j/\JO p (l.drop j)=some r'/\l.take k0++r0=K++r') (m:=l.length-(k0+1))
   ⟨k0+1,l.take k0,l,r0,by omega,?_,by simp;omega,rfl,by simp[Nat.min_eq_left (Nat.le_of_lt Jw)],rfl,h2,rfl⟩ ?_
  ·simp[CG,hw,Nat.min_eq_left (Nat.le_of_lt Jw)]
  rintro m vs ⟨j,K,zs,r',hj,rfl,hKj,R1,Y8,Y7,CW,AT⟩;refine D5 (by simp) (D5 (by simp[CG]) ?_);by_cases AL:j<l.length
  ·refine Il (t:=true) (by simp[CG,R1,AL]) (λ_=> ?_) (by simp);obtain⟨b,r2,hb,Dz,iH⟩:=zqA AL CW;have iR:zs[j]?=some l[j]:=by
    have:=congrArg (λL=>L[0]?) Y7;simpa[AL]using this
   have F9:(zs.map av)[j]?=some (av l[j]):=by simp[iR]
   have QT:K.length<zs.length:=by omega
   have wK:IntKind.i64.wrap ((j:Int)+1)=j+1:=CS (by omega) (by omega);have wI:IntKind.i64.wrap ((K.length:Int)+1)=K.length+1:=CS (by omega) (by omega);refine zwL (K:=λus=> ∃(K' zs':List α),us=[.int .i64 K'.length, .sl (zs'.map av)]/\K'.length<j+1/\zs'.length=l.length/\zs'.take K'.length=K'/\zs'.drop (j+1)=l.drop (j+1)/\l.take k0++r0=K'++r2) ?_ ?_
   ·rintro us ⟨K',zs',rfl,a1,a2,a3,a4,a5⟩;refine D5 (by simp[CG]) (Wz ⟨m-1,by omega,j+1,K',zs',r2,by omega,?_,a1,a2,a3,a4,Dz,a5⟩);simp[CG,wK]
   ·intro J hJ;refine D5 (λ_=>⟨.i64,j,zs.length,by simp,by omega,by simp,by omega,?_⟩) (qR (Ki _ _ _ _ j (zs.map av) _ F9) (oH (r:= .bool b) (λ_=>⟨g9,caps,by simp,?_,by simp⟩) ?_))
    ·simp[AV.nth,iR,(hs l[j]).1]
    ·have e1:=hX (.sl (l.map av)) (.fn g9 caps) (.int .i64 k0) (.int .i64 K.length) j (zs.map av) l[j] [] F9;rw[AB]at e1;show Cg Tryz.prog Cd (1000000+g9) ([X.den [.sl (l.map av), .fn g9 caps, .int .i64 k0, .int .i64 K.length, .int .i64 j, .sl (zs.map av)]]++caps) (.bool b);rw[e1];exact hf _ _ hb
    ·refine D5 (by simp) ?_;have e2:=hX (.sl (l.map av)) (.fn g9 caps) (.int .i64 k0) (.int .i64 K.length) j (zs.map av) l[j] [.bool b] F9;cases b with
     |true=>refine Il (t:=false) (by simp) (by simp) λ_=>Wz (hJ _ ⟨K,zs,by simp,by omega,R1,Y8,?_,by rw[AT,iH];simp⟩);have:=congrArg (List.drop 1) Y7;simpa[List.drop_drop]using this
     |false=>
      refine Il (t:=true) (by simp) (λ_=> ?_) (by simp);obtain⟨zk,R2⟩:∃zk,zs[K.length]?=some zk:=⟨zs[K.length],by simp[QT]⟩
      have e3:(E.idx (.var 5) (.var 3)).den ([AV.sl (l.map av), .fn g9 caps, .int .i64 k0, .int .i64 K.length, .int .i64 j, .sl (zs.map av)]++ [.bool false])=av zk:=by simp[AV.nth,R2]
      refine D5 (λ_=>⟨.i64,K.length,zs.length,by simp,by omega,by simp,by omega,?_⟩) (D5 (λ_=>BP _ _ _ e2) (D5 (λ_=>BP _ _ zk ?_) (D5 (by simp[CG]) (Wz (hJ _ ⟨K++ [l[j]],zs.set K.length l[j],?_,by simp;omega,by simpa using R1,?_,?_,by rw[AT,iH];simp⟩)))))
      ·simp[AV.nth,R2,(hs zk).1]
      ·exact(congrArg (λy=>AV.fld y 0 cn g) e3).trans (Yc zk)
      ·have e4:(E.set (.var 5) (.var 3) (.put (.idx (.var 5) (.var 3)) 0 X g)).den ([AV.sl (l.map av), .fn g9 caps, .int .i64 k0, .int .i64 K.length, .int .i64 j, .sl (zs.map av)]++ [.bool false])= .sl ((zs.set K.length l[j]).map av):=by
        show AV.cx _ _ (AV.cz ((E.idx (.var 5) (.var 3)).den _) 0 (X.den _) g)=_;rw[e3,e2,Kt];simp[AV.cx,List.map_set]
       show EL.den _ (.cons (.bin .add (.var 3) (.int .i64 1)) (.cons (.set (.var 5) (.var 3) (.put (.idx (.var 5) (.var 3)) 0 X g)) .nil))=_;simp only[EL.den];have e5:(E.bin .add (.var 3) (.int .i64 1)).den ([AV.sl (l.map av), .fn g9 caps, .int .i64 k0, .int .i64 K.length, .int .i64 j, .sl (zs.map av)]++ [.bool false])= .int .i64 ((K++ [l[j]]).length:Int):=by simp[CG,wI]
       congr 1;congr 1
      ·rw[AE,Bt,List.take_add_one,List.take_set_of_le (Av _),Y8];simp[QT]
      ·rw[List.drop_set_of_lt (by omega)];have:=congrArg (List.drop 1) Y7;simpa[List.drop_drop]using this
  ·have uS:j=l.length:=by omega
   subst uS;refine Il (t:=false) (by simp[CG,R1]) (by simp) λ_=>pU ?_;have H7:r'=[]:=by rw[List.drop_eq_nil_of_le (Av _)]at CW;exact(by simpa[JO]using CW.symm)
   subst H7;rw[AT,AB];have RZ:IntKind.i64.wrap ((zs.length:Int)-K.length)=zs.length-K.length:=CS (by omega) (by omega);have d3:(E.var 3).den ([AV.sl (l.map av),AV.fn g9 caps]++ [AV.int .i64 (k0:Int)]++ [AV.int .i64 (K.length:Int),AV.sl (zs.map av)])= .int .i64 K.length:=by simp
   have d4:(E.var 4).den ([AV.sl (l.map av),AV.fn g9 caps]++ [AV.int .i64 (k0:Int)]++ [AV.int .i64 (K.length:Int),AV.sl (zs.map av)])= .sl (zs.map av):=by simp
   have dm:(E.bin .sub (.len (.var 4)) (.var 3)).den ([AV.sl (l.map av),AV.fn g9 caps]++ [AV.int .i64 (k0:Int)]++ [AV.int .i64 (K.length:Int),AV.sl (zs.map av)])= .int .i64 ((zs.length:Int)-K.length):=by simp[CG,RZ]
   have Hx:Cn.den ([AV.sl (l.map av),AV.fn g9 caps]++ [AV.int .i64 (k0:Int)]++ [AV.int .i64 (K.length:Int),AV.sl (zs.map av)]) (.win (.var 4) (.var 3) (.len (.var 4))):=⟨.i64,K.length, .i64,zs.length,zs.length,d3,by simp,by rw[d4];simp,by omega,by omega,by omega⟩
   have dapp:(E.app (.win (.var 4) (.int .i64 (0)) (.var 3)) (.rep (.bin .sub (.len (.var 4)) (.var 3)) z)).den ([AV.sl (l.map av),AV.fn g9 caps]++ [AV.int .i64 (k0:Int)]++ [AV.int .i64 (K.length:Int),AV.sl (zs.map av)])= .sl ((zs.map av).take K.length++List.replicate (zs.length-K.length) (z.den ([AV.sl (l.map av),AV.fn g9 caps]++ [AV.int .i64 (k0:Int)]++ [AV.int .i64 (K.length:Int),AV.sl (zs.map av)]))):=by show AV.app (AV.win ((E.var 4).den _) (.int .i64 0) ((E.var 3).den _)) (AV.rep ((E.bin .sub (.len (.var 4)) (.var 3)).den _) _)=_;rw[d3,d4,dm];simp only[AV.win,AV.rep,AV.app,DN,Int.toNat_zero,List.drop_zero];congr 3;omega
   refine D5 (λ_=>Hx) (D5 (λ_=>Hx) (D5 (λ_=>λhu=>by have:=dm.symm.trans hu;simp at this) (D5 (λ_=>⟨.i64,0, .i64,K.length,zs.length,rfl,d3,?_,by omega,by omega,by omega⟩) (NY ?_))))
   ·refine(congrArg AV.len dapp).trans ?_;simp only[AV.len,AE,Ax,List.length_map,List.length_replicate];congr 1;omega
   ·refine(congrArg (λy=>AV.win y (.int .i64 0) (.int .i64 K.length)) dapp).trans ?_;simp only[AV.win,DN,Int.toNat_zero,List.drop_zero];rw[List.take_append_of_le_length (by simp;omega),List.take_take,Nat.min_self,<-List.map_take,Y8]
abbrev tH:Nat->List AV->AV->Prop:=Cg Tryz.prog Cd
@[reducible] def QC:Nat->Type
 |0=>Ai
 |1=>Ak
 |2=>Bj
 |3=>B8
 |4=>Ag
 |5=>AU
 |6=>CH
 |7=>Am
 |8=>C8
 |9=>DX
 |10=>HX
 |_+11=>Unit
@[reducible] def Uv:Nat->List Ty
 |0=> [.i .i64, .i .i64, .s, .s, .b]
 |1=> [.s, .s, .b]
 |2=> [.i .i64, .i .i64, .i .i64, .i .i64, .l .s, .l (.st 1), .b]
 |3=> [.i .i64, .s, .b]
 |4=> [.s, .l (.st 3)]
 |5=> [.i .i64, .i .i64, .i .i64, .l .s, .l (.st 1)]
 |6=> [.i .i64, .b, .i .i64]
 |7=> [.i .i64, .l (.st 4), .l (.st 5), .l (.st 6)]
 |8=> [.i .i64]
 |9=> [.i .i64, .l (.st 1)]
 |10=> [.i .i64, .i .i64, .l (.st 0)]
 |_+11=> []
def R5:∀n,QC n->AV
 |0,x=>JG x
 |1,x=>W1 x
 |2,x=>xE x
 |3,x=>Ml x
 |4,x=>fE x
 |5,x=>sA x
 |6,x=>rZ x
 |7,x=>zyR x
 |8,x=>zw5 x
 |9,x=>zzH x
 |10,x=>zz1 x
 |_+11,_=> .agg []
def Zm:∀n,QC n->HL QC (Uv n)
 |0,x=>(x.ab,x.aq,x.ae,x.a7,x.au,())
 |1,x=>(x.ae,x.a7,x.au,())
 |2,x=>(x.a8,x.ay,x.ab,x.bp,x.ao,x.af,x.cq,())
 |3,x=>(x.ab,x.a7,x.au,())
 |4,x=>(x.ae,x.al,())
 |5,x=>(x.ay,x.ab,x.bp,x.ao,x.af,())
 |6,x=>(x.ay,x.cq,x.ab,())
 |7,x=>(x.aw,x.aj,x.ah,x.az,())
 |8,x=>(x.cg,())
 |9,x=>(x.ab,x.bz,())
 |10,x=>(x.cu,x.ga,x.bw,())
 |_+11,_=>()
def iV:∀n,HL QC (Uv n)->QC n
 |0,x=>⟨x.1,x.2.1,x.2.2.1,x.2.2.2.1,x.2.2.2.2.1⟩
 |1,x=>⟨x.1,x.2.1,x.2.2.1⟩
 |2,x=>⟨x.1,x.2.1,x.2.2.1,x.2.2.2.1,x.2.2.2.2.1,x.2.2.2.2.2.1,x.2.2.2.2.2.2.1⟩
 |3,x=>⟨x.1,x.2.1,x.2.2.1⟩
 |4,x=>⟨x.1,x.2.1⟩
 |5,x=>⟨x.1,x.2.1,x.2.2.1,x.2.2.2.1,x.2.2.2.2.1⟩
 |6,x=>⟨x.1,x.2.1,x.2.2.1⟩
 |7,x=>⟨x.1,x.2.1,x.2.2.1,x.2.2.2.1⟩
 |8,x=>⟨x.1⟩
 |9,x=>⟨x.1,x.2.1⟩
 |10,x=>⟨x.1,x.2.1,x.2.2.1⟩
 |_+11,_=>()
theorem zzG:∀n x,R5 n x= .agg (Hf R5 (Uv n) (Zm n x))
 |0,_=>rfl
 |1,_=>rfl
 |2,_=>rfl
 |3,_=>rfl
 |4,_=>rfl
 |5,_=>rfl
 |6,_=>rfl
 |7,_=>rfl
 |8,_=>rfl
 |9,_=>rfl
 |10,_=>rfl
 |_+11,_=>rfl
theorem zym:∀n h,Zm n (iV n h)=h
 |0,_=>rfl
 |1,_=>rfl
 |2,_=>rfl
 |3,_=>rfl
 |4,_=>rfl
 |5,_=>rfl
 |6,_=>rfl
 |7,_=>rfl
 |8,_=>rfl
 |9,_=>rfl
 |10,_=>rfl
 |_+11,_=>rfl
@[reducible] def Dc:HZ:=⟨tH,QC,R5,Uv,Zm,iV,zzG,zym⟩
abbrev FS:=FN Dc
noncomputable def Zd(tb:List FS)(hs:List JM)(o:Option Tr)(ps:List PT)(r:RT)(xs:HP Dc.car ps)(hp:HY Dc ps xs):Option (Hg Dc.car r):=match o with
 |some t=>Cm tb 100000 (ON r) t hs (Ut ps xs hp) [] []
 |none=>none
theorem xW{f:Nat}{ps:List PT}{r:RT}{φ:HP Dc.car ps->Option (Hg Dc.car r)}(tb:List FS)(hs:List JM)(h:∀xs hp,Zd tb hs (TW Tryz.prog Cd f) ps r xs hp=φ xs)(hk:∀xs y,Uz Tryz.prog Cd f (FC Dc ps xs) (FZ Dc r y)=true)(xs:HP Dc.car ps)(y:Hg Dc.car r)(hp:HY Dc ps xs)(e:φ xs=some y):Dc.Rt f (FC Dc ps xs) (FZ Dc r y):=by
 rw[<-h xs hp]at e;unfold Zd at e;split at e
 ·rename_i t ht;refine Ji ht (hk xs y) ?_;unfold Den;rw[<-rV ps xs hp];exact EC tb 100000 (fa:=[]) (λ_ h=>nomatch h) (λ_ h=>nomatch h) (λv hv=>eT r hv) .nil e
 ·cases e
noncomputable def AD(f:Nat)(ps:List PT)(r:RT)(φ:HP Dc.car ps->Option (Hg Dc.car r))(tb:List FS)(hs:List JM)(h:∀xs hp,Zd tb hs (TW Tryz.prog Cd f) ps r xs hp=φ xs:=by intro _ _;kernel_rfl)(hk:∀xs y,Uz Tryz.prog Cd f (FC Dc ps xs) (FZ Dc r y)=true:=by intro _ _;kernel_rfl):FS:=
 ⟨f,ps,r,φ,λxs y hp e=>xW tb hs h hk xs y hp e,false,λh=>by cases h⟩
noncomputable def Hy(d:FS)(h:∀y,eY d.f (FZ Dc d.r y)=true):FS:=
 ⟨d.f,d.ps,d.r,d.φ,d.ok,true,λ_ xs y hx e=>zuJ (d.ok xs y hx e) (h y)⟩
noncomputable def Ga(f:Nat)(ps:List PT)(r:RT)(φ:HP Dc.car ps->Option (Hg Dc.car r))(ok:∀xs y,HY Dc ps xs->φ xs=some y->Dc.Rt f (FC Dc ps xs) (FZ Dc r y)):FS:=⟨f,ps,r,φ,ok,false,λh=>by cases h⟩
end Go.Proofs.YtndikjghnmhdmaaGreat
end
section
namespace Go.Proofs.YtndikjghnmhdmaaGreat
open Go.RowKit
theorem Dt.rd{P:Program}{w:World}{ts:List TypeId}{ms:List PM}{lo:List Bool}{vs:List Value}{xs:List AV}{rf lf hs:List Nat}(h:Dt P w ts ms lo vs xs rf lf hs):lo=[]->(∀m∈ms,m= .ro)->Rd w vs xs rf/\hs=[]:=by
 induction h with
 |nil=>intro _ _;exact⟨.nil,rfl⟩
 |lent h1 _ _ _ _=>intro BQ;subst BQ;cases h1
 | @cons t ts ms lo v vs x xs f h rf lf hs A5 _ ih=>
  intro BQ Es;subst BQ;obtain⟨h1,rfl⟩:=ih rfl λm hm=>Es m (List.mem_of_mem_tail hm);have DS:ms.headD .ro= .ro:=by
   cases ms with
   |nil=>rfl
   |cons m ms=>exact Es m (by simp)
  rw[DS]at A5;obtain⟨h2,h3⟩:Rd w [v] [x] f/\h=[]:=A5;subst h3;exact⟨by simpa using h2.app h1,rfl⟩
 |free h1 _ ih=>intro BQ Es;subst BQ;obtain⟨h2,rfl⟩:=ih rfl λm hm=>Es m (List.mem_of_mem_tail hm);exact⟨by simpa using h1.app h2,rfl⟩
theorem Dg.il{P:Program}{w:World}:∀{ts:List TypeId} {ms:List PM} {vs:List Value},vs.length=ts.length->(∀m∈ms,m= .ro)->Dg P w ts ms vs [] [] []
 | [],_,vs,_,_=> .nil
 |t::ts,ms,[],h,_=>by simp at h
 |t::ts,ms,v::vs,h,Es=>by
  refine .ro ?_ (Dg.il (by simpa using h) λm hm=>Es m (List.mem_of_mem_tail hm));cases ms with
  |nil=>rfl
  |cons m ms=>exact Es m (by simp)
def Zh(P:Program)(sg:BN)(f np:Nat)(r:AV):Bool:=
 match P.funcs[f]?,sg f with
 |some fn,some s=>fn.body.isSome&& !(fn.name== "runtime.NumGoroutine")&&JN P fn s r&&s.bj.all (λm=>match m with| .ro=>true|_=>false)&&fn.params.size==np&&fn.nfree==0&&(s.ft.isEmpty&&s.lo.isEmpty)&&(match fn.resultTypes.toList with| [t]=> !FW P t s.res|_=>false)
 |_,_=>false
theorem zwM{f:Nat}{xs:List AV}{r:AV}(hk:Zh Tryz.prog Cd f xs.length r=true)(hc:∀(w:World) (vs:List Value) (rf:List Nat),KE.K w->Rd w vs xs rf->Calls Tryz.prog f vs.toArray w λe w'=>Mod [] w w'/\ ∃v f1,e= .returned v/\Rd w' [v] [r] f1/\ ∀b∈f1,b∈rf\/w.heap.size<=b):Cg Tryz.prog Cd f xs r:=by
 unfold Zh at hk;split at hk
 ·rename_i fn s hf hs;simp only[Ab,Br,AJ,A7]at hk;obtain⟨⟨⟨⟨⟨⟨⟨h1,h2⟩,h3⟩,h4⟩,h5⟩,h6⟩,Cr⟩,h7⟩:=hk;obtain⟨Cr,BQ⟩:s.ft=[]/\s.lo=[]:=by simpa using Cr
  have DS:∀m∈s.bj,m= .ro:=λm hm=>by
   have:=h4 m hm;split at this
   ·rfl
   ·cases this
  unfold Cg;rw[if_pos (K2 f s hs)];refine⟨s,hs,fn,hf,h1,h2,h3,by omega,by simp[Cr],λw vs rf lf Ba Ah hd _ BZ DR=> ?_⟩;obtain⟨hr,rfl⟩:=Ah.rd BQ DS;refine(hc w vs rf DR.2.1 hr).mono ?_;rintro e w' ⟨hm,v,f1,rfl,hv,hb⟩;refine⟨v,rfl,⟨⟨r,[],f1,[],[],[],rfl,?_,Dg.il ?_ DS,by simp,by simp,λb BS=>⟨by simp,?_⟩⟩,hm⟩⟩
  ·unfold Jq;split at h7
   ·rename_i t ht;rw[ht];show Eb Tryz.prog w' t s.res v r f1 [];unfold Eb;rw[if_neg (by rw[Bool.not_eq_true];simpa using h7)];exact⟨hv,rfl⟩
   ·cases h7
  ·rw[hr.len];simp[Cr];omega
  ·rcases hb b (by simpa using BS)with h|h
   ·exact .inl h
   ·exact .inr (.inr h)
 ·cases hk
theorem zyc{f:Nat}{xs:List AV}{r:AV}(hk:Zh Tryz.prog Cd f xs.length r=true)(hc:∀(w:World) (vs:List Value) (rf:List Nat),Rd w vs xs rf->Calls Tryz.prog f vs.toArray w λe w'=>Mod [] w w'/\ ∃v f1,e= .returned v/\Rd w' [v] [r] f1/\ ∀b∈f1,b∈rf\/w.heap.size<=b):Cg Tryz.prog Cd f xs r:=
 zwM hk λw vs rf _ hr=>hc w vs rf hr
theorem Xg{w:World}{s:List UInt8}{vs:List Value}{xs:List AV}{f:List Nat}(h:Rd w vs (.str s::xs) f):∃(b:ByteArray) (us:List Value),vs= .string b::us/\b.data.toList=s/\b.size<=9223372036854775807/\Rd w us xs f:=by
 cases h with
 |str a h=>exact⟨_,_,rfl,rfl,a,h⟩
theorem W8{w:World}{k:IntKind}{n:Int}{vs:List Value}{xs:List AV}{f:List Nat}(h:Rd w vs (.int k n::xs) f):∃us:List Value,vs= .int k n::us/\EX k n/\Rd w us xs f:=by
 cases h with
 |int a h=>exact⟨_,rfl,a,h⟩
theorem WO{w:World}{vs:List Value}{f:List Nat}(h:Rd w vs [] f):vs=[]/\f=[]:=by cases h;exact⟨rfl,rfl⟩
end Go.Proofs.YtndikjghnmhdmaaGreat
end
section
namespace Go.Proofs
open Go.Shelf
def Tryz.j0:Go.Shelf.Ren:=⟨λ|137=>154|217=>162|266=>173|n=>n,λ|9=>9|5=>5|3=>3|n=>n,λ|n=>n⟩
def Tryz.kd:Go.Shelf.Ren:=⟨λ|215=>80|n=>n,λ|3=>3|4=>4|n=>n,λ|n=>n⟩
def Tryz.fq:Go.Shelf.Ren:=⟨λ|122=>45|215=>80|n=>n,λ|3=>3|4=>4|n=>n,λ|n=>n⟩
theorem Tryz.jn:Go.Proofs.Lays.n122 Tryz.prog Tryz.fq:={
 mixed:=by kernel_rfl
 f122:=Tryz.func45.trans (congrArg some (by kernel_rfl))
 f215:=Tryz.func80.trans (congrArg some (by kernel_rfl))
 t3:=Tryz.underlying3
 a3:=Tryz.isAgg3
 z3:=Tryz.sizeOf3
 v3:=Tryz.zeroValue3
 t4:=Tryz.underlying4
 a4:=Tryz.isAgg4
 z4:=Tryz.sizeOf4
 v4:=Tryz.zeroValue4}
open Go.RowKit in
theorem Tryz.cmp_Compare_int(x y:Int)(w:World):
  Calls Tryz.prog 45 #[.int .i64 x, .int .i64 y] w λe w'=>e= .returned (.int .i64 (Lib.compareInt x y))/\w'=w:=Any.cmp_Compare_int Tryz.jn x y w
def Tryz.fj:Go.Shelf.Ren:=⟨λ|217=>162|266=>173|n=>n,λ|9=>9|5=>5|3=>3|n=>n,λ|n=>n⟩
theorem Tryz.jq:Go.Proofs.Lays.n217 Tryz.prog Tryz.fj:={
 mixed:=by kernel_rfl
 f217:=Tryz.func162.trans (congrArg some (by kernel_rfl))
 f266:=Tryz.func173.trans (congrArg some (by kernel_rfl))
 t3:=Tryz.underlying3
 a3:=Tryz.isAgg3
 z3:=Tryz.sizeOf3
 v3:=Tryz.zeroValue3
 t5:=Tryz.underlying5
 a5:=Tryz.isAgg5
 z5:=Tryz.sizeOf5
 v5:=Tryz.zeroValue5
 t9:=Tryz.underlying9
 a9:=Tryz.isAgg9
 z9:=Tryz.sizeOf9
 v9:=Tryz.zeroValue9}
open Go.RowKit Go.Lib in
theorem Tryz.stringslite_IndexByte(s:ByteArray)(c:Int)(w:World):
  Calls Tryz.prog 162 #[.string s, .int .u8 c] w λe w'=>e= .returned (.int .i64 (Lib.indexByte s.data.toList c.toNat.toUInt8))/\w'=w:=Any.stringslite_IndexByte Tryz.jq s c w
def Tryz.gh:Go.Shelf.Ren:=⟨λ|190=>145|125=>43|258=>161|128=>78|129=>79|302=>164|303=>165|304=>166|305=>167|306=>168|307=>169|308=>170|309=>171|310=>172|333=>174|329=>122|330=>123|334=>175|335=>176|336=>81|344=>177|n=>n,λ|31=>50|9=>9|3=>3|46=>94|0=>0|51=>127|53=>129|4=>4|183=>121|182=>120|131=>65|5=>5|218=>164|222=>168|228=>182|229=>183|n=>n,λ|n=>n⟩
theorem Tryz.gz:Go.Proofs.Lays.n190 Tryz.prog Tryz.gh:={
 mixed:=by kernel_rfl
 f125:=Tryz.func43.trans (congrArg some (by kernel_rfl))
 f128:=Tryz.func78.trans (congrArg some (by kernel_rfl))
 f129:=Tryz.func79.trans (congrArg some (by kernel_rfl))
 f190:=Tryz.func145.trans (congrArg some (by kernel_rfl))
 f258:=Tryz.func161.trans (congrArg some (by kernel_rfl))
 f302:=Tryz.func164.trans (congrArg some (by kernel_rfl))
 f303:=Tryz.func165.trans (congrArg some (by kernel_rfl))
 f304:=Tryz.func166.trans (congrArg some (by kernel_rfl))
 f305:=Tryz.func167.trans (congrArg some (by kernel_rfl))
 f306:=Tryz.func168.trans (congrArg some (by kernel_rfl))
 f307:=Tryz.func169.trans (congrArg some (by kernel_rfl))
 f308:=Tryz.func170.trans (congrArg some (by kernel_rfl))
 f309:=Tryz.func171.trans (congrArg some (by kernel_rfl))
 f310:=Tryz.func172.trans (congrArg some (by kernel_rfl))
 f329:=Tryz.func122.trans (congrArg some (by kernel_rfl))
 f330:=Tryz.func123.trans (congrArg some (by kernel_rfl))
 f333:=Tryz.func174.trans (congrArg some (by kernel_rfl))
 f334:=Tryz.func175.trans (congrArg some (by kernel_rfl))
 f335:=Tryz.func176.trans (congrArg some (by kernel_rfl))
 f336:=Tryz.func81.trans (congrArg some (by kernel_rfl))
 f344:=Tryz.func177.trans (congrArg some (by kernel_rfl))
 t0:=Tryz.underlying0
 a0:=Tryz.isAgg0
 z0:=Tryz.sizeOf0
 v0:=Tryz.zeroValue0
 t3:=Tryz.underlying3
 a3:=Tryz.isAgg3
 z3:=Tryz.sizeOf3
 v3:=Tryz.zeroValue3
 t4:=Tryz.underlying4
 a4:=Tryz.isAgg4
 z4:=Tryz.sizeOf4
 v4:=Tryz.zeroValue4
 t5:=Tryz.underlying5
 a5:=Tryz.isAgg5
 z5:=Tryz.sizeOf5
 v5:=Tryz.zeroValue5
 t9:=Tryz.underlying9
 a9:=Tryz.isAgg9
 z9:=Tryz.sizeOf9
 v9:=Tryz.zeroValue9
 t31:=Tryz.underlying50
 a31:=Tryz.isAgg50
 z31:=Tryz.sizeOf50
 v31:=Tryz.zeroValue50
 t46:=Tryz.underlying94
 a46:=Tryz.isAgg94
 z46:=Tryz.sizeOf94
 v46:=Tryz.zeroValue94
 t51:=Tryz.underlying127
 a51:=Tryz.isAgg127
 z51:=Tryz.sizeOf127
 v51:=Tryz.zeroValue127
 t53:=Tryz.underlying129
 a53:=Tryz.isAgg129
 z53:=Tryz.sizeOf129
 v53:=Tryz.zeroValue129
 t131:=Tryz.underlying65
 a131:=Tryz.isAgg65
 z131:=Tryz.sizeOf65
 v131:=Tryz.zeroValue65
 t182:=Tryz.underlying120
 a182:=Tryz.isAgg120
 z182:=Tryz.sizeOf120
 v182:=Tryz.zeroValue120
 t183:=Tryz.underlying121
 a183:=Tryz.isAgg121
 z183:=Tryz.sizeOf121
 v183:=Tryz.zeroValue121
 t218:=Tryz.underlying164
 a218:=Tryz.isAgg164
 z218:=Tryz.sizeOf164
 v218:=Tryz.zeroValue164
 t222:=Tryz.underlying168
 a222:=Tryz.isAgg168
 z222:=Tryz.sizeOf168
 v222:=Tryz.zeroValue168
 t228:=Tryz.underlying182
 a228:=Tryz.isAgg182
 z228:=Tryz.sizeOf182
 v228:=Tryz.zeroValue182
 t229:=Tryz.underlying183
 a229:=Tryz.isAgg183
 z229:=Tryz.sizeOf183
 v229:=Tryz.zeroValue183}
open Go.Sort Go.RowKit in
theorem Tryz.slices_Sort_string(blk off cap:Nat)(ss:List (List UInt8))(w:World)(hH:Holds encStr w blk off ss.toArray)(hblk:blk<w.heap.size)(BF:ss.length<4611686018427387904):
  Calls Tryz.prog 145 #[.slice (some ⟨blk,off,none⟩) ss.length cap] w λe w'=>
   e= .returned (.tuple #[])/\ ∃n os,w'=grow (putRow encStr (Sort.ahead w n) blk off (ss.mergeSort λx y=>decide (x<=y)).toArray) os:=Any.slices_Sort_string Tryz.gz blk off cap ss w hH hblk BF
def Tryz.gb:Go.Shelf.Ren:=⟨λ|194=>146|n=>n,λ|31=>50|9=>9|3=>3|4=>4|0=>0|n=>n,λ|n=>n⟩
theorem Tryz.ia:Go.Proofs.Lays.n194 Tryz.prog Tryz.gb:={
 mixed:=by kernel_rfl
 f194:=Tryz.func146.trans (congrArg some (by kernel_rfl))
 t0:=Tryz.underlying0
 a0:=Tryz.isAgg0
 z0:=Tryz.sizeOf0
 v0:=Tryz.zeroValue0
 t3:=Tryz.underlying3
 a3:=Tryz.isAgg3
 z3:=Tryz.sizeOf3
 v3:=Tryz.zeroValue3
 t4:=Tryz.underlying4
 a4:=Tryz.isAgg4
 z4:=Tryz.sizeOf4
 v4:=Tryz.zeroValue4
 t9:=Tryz.underlying9
 a9:=Tryz.isAgg9
 z9:=Tryz.sizeOf9
 v9:=Tryz.zeroValue9
 t31:=Tryz.underlying50
 a31:=Tryz.isAgg50
 z31:=Tryz.sizeOf50
 v31:=Tryz.zeroValue50}
open Go.RowKit Go.Lib Go.Sort in
theorem Tryz.slices_Compact_string(blk off cap:Nat)(zs:List (List UInt8))(w:World)(hH:Holds encStr w blk off zs.toArray)(BF:zs.length<=9223372036854775807)(IC:zs.length<=cap):
  Calls Tryz.prog 146 #[.slice (some ⟨blk,off,none⟩) zs.length cap] w λe w'=>e= .returned (.slice (some ⟨blk,off,none⟩) (Lib.compact zs).length cap)/\ ∃q,w'=putRow encStr (Sort.ahead w q) blk off (Lib.compact zs++List.replicate (zs.length-(Lib.compact zs).length) []).toArray:=Any.slices_Compact_string Tryz.ia blk off cap zs w hH BF IC
open Go.RowKit Go.Lib Go.Sort in
theorem Tryz.slices_Compact_string_empty(a:Option Addr)(cap:Nat)(w:World):
  Calls Tryz.prog 146 #[.slice a 0 cap] w λe w'=>e= .returned (.slice a 0 cap)/\w'=w:=Any.slices_Compact_string_empty Tryz.ia a cap w
open Go.RowKit Go.Sort in
theorem Tryz.slices_Sort_string_none(p:Option Addr)(cap:Nat)(w:World):
  Calls Tryz.prog 145 #[.slice p 0 cap] w λe w'=>e= .returned (.tuple #[])/\w'=w:=Any.slices_Sort_string_none Tryz.gz p cap w
end Go.Proofs
end
section
namespace Go.Proofs.YtndikjghnmhdmaaGreat
open Go.RowKit
set_option maxRecDepth 100000
theorem kW:∀(l:List UInt8) (c:UInt8), -1<=Lib.indexByte l c/\Lib.indexByte l c<l.length\/Lib.indexByte l c= -1
 | [],_=> .inr rfl
 |b::l,c=>by
  unfold Lib.indexByte;rcases kW l c with h|h
  ·split
   ·left;simp
   ·split
    ·exact .inr rfl
    ·left;rw[AR];omega
  ·rw[h];split
   ·left;simp
   ·right;rfl
theorem zwZ{n:Int}(h1: -9223372036854775808<=n)(h2:n<=9223372036854775807):EX .i64 n:=CS h1 h2
def UK(s:List UInt8)(c:Int):Option Int:=some (Lib.indexByte s c.toNat.toUInt8)
theorem yQ(a0:List UInt8)(a1 r:Int)(h:UK a0 a1=some r):Cg Tryz.prog Cd 162 [.str a0, .int .u8 a1] (.int .i64 r):=zyc (by kernel_rfl) λw vs rf hr=>by
 obtain⟨b,us,rfl,rfl,hb,hr⟩:=Xg hr;obtain⟨us1,rfl,_,hr⟩:=W8 hr;obtain⟨rfl,rfl⟩:=WO hr;refine(Tryz.stringslite_IndexByte b a1 w).mono ?_;rintro e w' ⟨rfl,rfl⟩;cases h;have hl:b.data.toList.length<=9223372036854775807:=by rw[BG];exact hb
 exact⟨Mod.refl [] _,_,[],rfl, .int (by rcases kW b.data.toList a1.toNat.toUInt8 with h|h<;>exact zwZ (by omega) (by omega)) .nil,by simp⟩
theorem VY{P:Program}(w:World)(dT sT ty elem:TypeId)(k:Nat)(g o dLen dCap:Nat)(a:Addr)(sLen sCap:Nat)(cur:Array Value)(t:TypeId)(cs:List Value)
  (hu:P.underlying dT=some (.slice elem)) (hs:(P.info? elem).map (·.size)=some k)
  (hg:w.heap[g]?=some (.cells cur t (0,0))) (hn:cs.length=Nat.min sLen dLen*k)
  (Dq:∀j v,cs[j]?=some v->w.cell? (a.add j)=some v) (MS:o+cs.length<=cur.size) (h1:∀v∈cs,v.oneCell'=true):
  (Builtin.copy_ #[dT,sT] ty #[.slice (some ⟨g,o,none⟩) dLen dCap, .slice (some a) sLen sCap]).run P w=
   .ok (goInt (Nat.min sLen dLen)) (w.setRow g (cur.toList.take o++cs++cur.toList.drop (o+cs.length)).toArray):=by
 have hl:=run_loadCells_list (P:=P) w a cs Dq;have I1:=run_storeCells_at P g o t cs 0 cur w hg (by simpa using MS) h1;cases hq:P.info? elem with
 |none=>simp[hq]at hs
 |some i=>
  have hi:i.size=k:=by simpa[hq]using hs
  rw[hn]at hl;simp[Builtin.copy_,run_underlying hu,Builtin.lenOf,Builtin.firstCells,sizeOf,typeInfo,hq,hi,hl,I1]
theorem aM{P:Program}(w:World){ops:Array Oper}{rest:List Oper}{o:Oper}{a:Act}{Q:Exit->Act->World->Prop}(OB:o.guard=none)(d s:Operand)(t t':TypeId)
  (ho:o.op= .call {callee:= .builtin .copy,args:= #[d,s],argTypes:= #[t,t']}) (v u:Value) (hd:a.eval d=v) (hs:a.eval s=u) {v':Value} {w':World}
  (hr:(Builtin.copy_ #[t,t'] o.type #[v,u]).run P w= .ok v' w') (h:wpList P ops Q rest (a.put o.dst v') w'):wpList P ops Q (o::rest) a w:=
 wpList_plain OB λ_ hK=>by unfold Oper.wp execOp;simp only[ho,resolve,invoke,builtin,Sem.run_bind,Sem.run_pure,Result.andThen_ok,List.map_toArray,List.map_cons,List.map_nil,hd,hs,hr];exact hK _ _ h
theorem lV{P:Program}{ops:Array Oper}{o:Oper}{a:Act}{w:World}{K:Act->World->Prop}{Q:Exit->Act->World->Prop}{E:Prop}
  (hg:o.guard=none) (d x:Operand) (dT sT:TypeId) (AQ:o.op=Op.call {callee:=Callee.builtin Builtin.copy,args:= #[d,x],argTypes:= #[dT,sT]})
  (v u:Value) (hd:a.eval d=v) (hx:a.eval x=u) {v':Value} {w':World} (hr:(Builtin.copy_ #[dT,sT] o.type #[v,u]).run P w= .ok v' w') (hK:K (a.put o.dst v') w'):
  if Region.wanted o (yielded ops a.tmps)=true then Oper.wp P o a w K Q else E:=by
 have hw:Region.wanted o (yielded ops a.tmps)=true:=by simp[Region.wanted,hg]
 rw[if_pos hw];unfold Oper.wp;simp[execOp,AQ,resolve,invoke,builtin,hd,hx,hr,Result.andThen];exact hK
def EN(w:World)(el:TypeId)(k:Nat)(g cap:Nat)(C:Array Value)(n:Nat)(cs:List Value):Prop:=
 n<=cap/\cap<=maxLen/\w.heap[g]?=some (.cells C el (0,0))/\C.size=cap*k/\cs=C.toList.take (n*k)
def Oo(w w':World)(el:TypeId)(k:Nat)(own:List Nat)(v:Value)(n:Nat)(cs:List Value):Prop:=
 ∃g cap C,v= .slice (some ⟨g,0,none⟩) n cap/\EN w' el k g cap C n cs/\Mod own w w'/\(g∈own\/w.heap.size<=g)
def Xh(P:Program)(f:Nat)(el:TypeId)(k:Nat):Prop:=
 ∀(w:World) (v:Value) (n i:Nat) (cs:List Value) (own:List Nat) (vb vc m:Nat) (VC:Array Value) (vs:List Value),cs.length=n*k->
  ((n=0/\ ∃q,v= .slice q 0 0)\/ ∃g cap C,v= .slice (some ⟨g,0,none⟩) n cap/\EN w el k g cap C n cs/\g∈own)->i<=n->EN w el k vb vc VC m vs->(∀g∈own,vb≠g)->0<m->(n+m)*1000<=140737488355328->
  (∀u∈vs,u.oneCell'=true)->(∀u∈cs,u.oneCell'=true)->
  Calls P f #[v, .int .i64 i, .slice (some ⟨vb,0,none⟩) m vc] w λe w'=> ∃u,e= .returned u/\Oo w w' el k own u (n+m) (cs.take (i*k)++vs++cs.drop (i*k))
theorem EN.cell{w:World}{el:TypeId}{k g cap:Nat}{C:Array Value}{n:Nat}{cs:List Value}(h:EN w el k g cap C n cs)(off j:Nat)(v:Value)(hj:(cs.drop off)[j]?=some v):w.cell? ((⟨g,off,none⟩:Addr).add j)=some v:=by
 obtain⟨_,_,h3,_,h5⟩:=h;rw[Addr.add_lit,Ef h3];rw[List.getElem?_drop,h5,List.getElem?_take]at hj;split at hj
 ·simpa using hj
 ·cases hj
theorem EN.len{w:World}{el:TypeId}{k g cap:Nat}{C:Array Value}{n:Nat}{cs:List Value}(h:EN w el k g cap C n cs):cs.length=n*k:=by obtain⟨h1,_,_,h4,h5⟩:=h;have:=Bf k h1;rw[h5,Ax,BG];omega
theorem xD{α:Type}(cur cs vs:List α)(i m n:Nat)(hc:cs=cur.take n)(hi:i<=n)(hv:vs.length=m)(hn:n+m<=cur.length):
  let c1:=cur.take (i+m)++cs.drop i++cur.drop (i+m+(cs.drop i).length)
  (c1.take i++vs++c1.drop (i+vs.length)).take (n+m)=cs.take i++vs++cs.drop i:=by
 have Ar:cs.length=n:=by rw[hc,Ax];omega
 have hd:(cs.drop i).length=n-i:=by rw[BU,Ar]
 intro c1;have e1:c1.take i=cs.take i:=by show(cur.take (i+m)++cs.drop i++_).take i=_;rw[List.append_assoc,List.take_append_of_le_length (by rw[Ax];omega),List.take_take,hc,List.take_take];congr 1;omega
 have e2:c1.drop (i+vs.length)=cs.drop i++cur.drop (i+m+(cs.drop i).length):=by show(cur.take (i+m)++cs.drop i++_).drop _=_;rw[List.append_assoc,List.drop_append_of_le_length (by rw[Ax,hv];omega),List.drop_eq_nil_of_le (by rw[Ax,hv];omega),List.nil_append]
 rw[e1,e2];have l1:(cs.take i++vs++cs.drop i).length=n+m:=by simp only[AE,Ax,hv,hd,Ar];omega
 rw[<-List.append_assoc,<-l1,List.take_left]
theorem two{α:Type}(zs cs vs:List α)(i m n:Nat)(cur:List α)(X2:cur=cs.take i++zs)(Ar:cs.length=n)(hi:i<=n)(hv:vs.length=m)(hz:n+m-i<=zs.length):
  let c1:=cur.take i++vs++cur.drop (i+vs.length)
  (c1.take (i+m)++cs.drop i++c1.drop (i+m+(cs.drop i).length)).take (n+m)=cs.take i++vs++cs.drop i:=by
 have ht:(cs.take i).length=i:=by rw[Ax];omega
 intro c1;have e1:c1=cs.take i++vs++cur.drop (i+vs.length):=by show cur.take i++vs++cur.drop (i+vs.length)=_;rw[X2];congr 2;rw[List.take_append_of_le_length (by omega),List.take_take,Nat.min_self]
 have e2:c1.take (i+m)=cs.take i++vs:=by
  have l2:(cs.take i++vs).length=i+m:=by rw[AE,ht,hv]
  rw[e1,<-l2,List.take_left]
 rw[e2];have l1:(cs.take i++vs++cs.drop i).length=n+m:=by simp only[AE,ht,hv,BU,Ar];omega
 rw[<-l1,List.take_left]
theorem cW(xs ys:List AV):Ap (xs++ys)=Ap xs++Ap ys:=by simp[Ap]
theorem mH{K:Nat}{xs:List AV}(h:∀y∈xs,y.cells.length=K){i:Nat}(hi:i<=xs.length):Ap (xs.take i)=(Ap xs).take (i*K)/\Ap (xs.drop i)=(Ap xs).drop (i*K):=by
 have l1:(Ap (xs.take i)).length=i*K:=by rw[JI _ λy hy=>h y (Bw hy),Ax,Nat.min_eq_left hi]
 have e:Ap xs=Ap (xs.take i)++Ap (xs.drop i):=by rw[<-cW,BC]
 rw[e,<-l1,List.take_left,List.drop_left];exact⟨rfl,rfl⟩
theorem CA.iw{w:World}{el K:Nat}{v:Value}{x:AV}{top:List Nat}(h:CA w el K v x top []):∃xs cs,x= .sl xs/\0<K/\(∀y∈xs,y.cells.length=K)/\cs.length=xs.length*K/\Rd w cs (Ap xs) []/\(∀u∈cs,u.oneCell'=true)/\
  ((xs=[]/\top=[]/\ ∃q,v= .slice q 0 0)\/ ∃g cap C,v= .slice (some ⟨g,0,none⟩) xs.length cap/\EN w el K g cap C xs.length cs/\top=[g]):=by
 obtain⟨xs,rfl,h2,h3,⟨rfl,⟨a,hv⟩,rfl,_⟩|⟨g,cap,C,rfl,h6,h7,h8,h9,rfl,ER,El⟩⟩:=h
 ·exact⟨[],[],rfl,h3,h2,by simp,by simpa[Ap]using Rd.nil,by simp, .inl ⟨rfl,rfl,a,hv⟩⟩
 ·exact⟨xs,_,rfl,h3,h2,(EN.len ⟨h6,h7,h8,h9,rfl⟩),El,ER, .inr ⟨g,cap,C,rfl,⟨h6,h7,h8,h9,rfl⟩,rfl⟩⟩
theorem S1{P:Program}{w:World}{t el:TypeId}{v:Value}{x:AV}{rf hs:List Nat}(ha:Aj P t=false)(hl:A2 P t=[t])(he:Co P t=some el)(hf:B4 P el=true)(h:Oi P w t [true] v x rf hs):rf=[]/\CA w el (P.cellsOf el) v x hs []:=by
 obtain⟨us,ys,h1,h2⟩:=h;rw[ha]at h1;simp only[Bv,if_false]at h1;obtain⟨rfl,rfl⟩:=h1;rw[hl]at h2;cases h2 with
 |own q1 q2 q3 q4 q5=>
  cases q5;rw[he]at q2;cases q2;rcases q3 with⟨_,rfl⟩|⟨h,_⟩
  ·exact⟨rfl,by simpa using q4⟩
  ·rw[hf]at h;cases h
 |deep q1 q2 q3=>rw[he]at q2;cases q2;rw[hf]at q3;cases q3
 |rd q1=>have:=q1 rfl;rw[he]at this;cases this
def Zk(P:Program)(sg:BN)(f:Nat)(t it el K:Nat):Bool:=
 match P.funcs[f]?,sg f with
 |some fn,some s=>(match s.bj,s.res,s.ft,s.lo with
  | [.va [true], .ro, .va [true]],[true],[],[]=>true
  |_,_,_,_=>false)&&fn.body.isSome&& !(fn.name== "runtime.NumGoroutine")&&fn.params.toList==[t,it,t]&&fn.resultTypes.toList==[t]&&fn.nfree==0&& !Aj P t&&A2 P t==[t]&&Co P t==some el&&B4 P el&&P.cellsOf el==K&&FW P t [true]&&fn.params.size==3
 |_,_=>false
def TQ(P:Program)(sg:BN)(f:Nat)(r:List AV):Bool:=match P.funcs[f]?,sg f with
 |some fn,some s=>JN P fn s (.sl r)
 |_,_=>false
theorem zzc{f t it el K:Nat}(hk:Zk Tryz.prog Cd f t it el K=true)(C6:∀r,TQ Tryz.prog Cd f r=true)(MX:Xh Tryz.prog f el K)(xs ys:List AV)(i:Int)(h0:0<=i)(h1:i<=xs.length)(hy:ys≠ [])(hb:(xs.length+ys.length)*1000<=140737488355328):
  Cg Tryz.prog Cd f [.sl xs, .int .i64 i, .sl ys] (.sl (xs.take i.toNat++ys++xs.drop i.toNat)):=by
 unfold Zk at hk;split at hk
 ·rename_i fn s hf hs;simp only[Ab,Br,AJ]at hk;obtain⟨⟨⟨⟨⟨⟨⟨⟨⟨⟨⟨⟨g1,g2⟩,g3⟩,g4⟩,g5⟩,g6⟩,g7⟩,g8⟩,g9⟩,g10⟩,g11⟩,g12⟩,g13⟩:=hk;obtain⟨hm,hr,Cr,BQ⟩:s.bj=[.va [true], .ro, .va [true]]/\s.res=[true]/\s.ft=[]/\s.lo=[]:=by
   split at g1
   ·rename_i a b c d;exact⟨a,b,c,d⟩
   ·cases g1
  unfold Cg;rw[if_pos (K2 f s hs)];refine⟨s,hs,fn,hf,g2,g3,by have:=C6 (xs.take i.toNat++ys++xs.drop i.toNat);unfold TQ at this;rw[hf,hs]at this;exact this,by simp[g6,g13],by simp[Cr],λw vs rf lf Ba Ah hd _ BZ DR=> ?_⟩;rw[g4,Cr,AB,hm,BQ]at Ah;cases Ah with
  |lent h _ _ _=>cases h
  | @cons _ _ _ _ v1 vs1 _ _ f1 k1 rf1 lf1 BE a1 Ah=>
   cases Ah with
   |lent h _ _ _=>cases h
   | @cons _ _ _ _ v2 vs2 _ _ f2 k2 rf2 lf2 A1 a2 Ah=>
    cases Ah with
    |lent h _ _ _=>cases h
    | @cons _ _ _ _ v3 vs3 _ _ f3 k3 rf3 lf3 Hu a3 Ah=>
     cases Ah;obtain⟨rfl,r1⟩:=S1 g7 g8 g9 g10 a1;obtain⟨rfl,r3⟩:=S1 g7 g8 g9 g10 a3;obtain⟨a2,rfl⟩:Rd w [v2] [AV.int .i64 i] f2/\k2=[]:=a2;obtain⟨us,rfl2,hI,a2⟩:=W8 a2;obtain⟨rfl,rfl⟩:=WO a2;cases rfl2;obtain⟨xs',cs,e1,p0,p1,p2,p3,p4,p5⟩:=r1.iw;cases e1;obtain⟨ys',cv,e2,_,q1,q2,q3,q4,q5⟩:=r3.iw;cases e2;rw[g11]at p0 p1 p2 p5 q1 q2 q5;obtain⟨vb,vc,VC,rfl,hv,rfl⟩:∃g cap C,v3= .slice (some ⟨g,0,none⟩) ys.length cap/\EN w el K g cap C ys.length cv/\k3=[g]:=by
      rcases q5 with⟨h,_⟩|h
      ·exact absurd h hy
      ·exact h
     have vE:k1++ [vb]=k1++([]++([vb]++ [])):=by simp
     have Ll:∀g∈k1,vb≠g:=by intro g hg e;subst e;have:=(List.nodup_append.1 BZ).2.2 vb hg vb (by simp);exact this rfl
     have wP:0<ys.length:=by cases ys with|nil=>exact absurd rfl hy|cons=>simp
     have hc:=MX w v1 xs.length i.toNat cs k1 vb vc ys.length VC cv p2 (by
      rcases p5 with⟨rfl,_,q,rfl⟩|⟨g,cap,C,rfl,h,rfl⟩
      ·exact .inl ⟨rfl,q,rfl⟩
      ·exact .inr ⟨g,cap,C,rfl,h,by simp⟩) (by omega) hv Ll wP hb q4 p4
     rw[show((i.toNat:Nat):Int)=i by omega]at hc;refine hc.mono ?_;rintro e w' ⟨u,rfl,g,cap,C,rfl,⟨z1,z2,z3,z4,z5⟩,BO,E0⟩;have H2:∀{us:List Value} {zs:List AV},Rd w us zs []->Rd w' us zs []:=λh=>h.frame (by simp);have cut:∀o n,Rd w ((cs.drop o).take n) (((Ap xs).drop o).take n) []:=λo n=>by
      obtain⟨gg,k1,k2⟩:=p3.piece o n;have:gg=[]:=List.eq_nil_iff_forall_not_mem.2 λb hb=>by simpa using k1 b hb
      rw[this]at k2;exact k2
     obtain⟨t1,t2⟩:=mH p1 (i:=i.toNat) (by omega);have hmul:=Bf K (show i.toNat<=xs.length by omega);have Db:Rd w' (cs.take (i.toNat*K)++cv++cs.drop (i.toNat*K)) (Ap (xs.take i.toNat++ys++xs.drop i.toNat)) []:=by rw[cW,cW,t1,t2];have c1:=cut 0 (i.toNat*K);have c2:=cut (i.toNat*K) (cs.length-i.toNat*K);rw[List.drop_zero,List.drop_zero]at c1;rw[List.take_of_length_le (by simp),List.take_of_length_le (by rw[BU,JI _ p1,p2];exact Av _)]at c2;exact(((H2 c1).app (H2 q3)).app (H2 c2))
     have hlen:(xs.take i.toNat++ys++xs.drop i.toNat).length=xs.length+ys.length:=by simp only[AE,Ax,BU];omega
     have Bd:CA w' el K (.slice (some ⟨g,0,none⟩) (xs.length+ys.length) cap) (.sl (xs.take i.toNat++ys++xs.drop i.toNat)) [g] []:=by
      refine⟨_,rfl,λy hy=> ?_,p0, .inr ⟨g,cap,C,by rw[hlen],by rw[hlen];exact z1,z2,z3,z4,rfl,?_,?_⟩⟩
      ·rcases Af.1 hy with hy|hy
       ·rcases Af.1 hy with hy|hy
        ·exact p1 y (Bw hy)
        ·exact q1 y hy
       ·exact p1 y (B1 hy)
      ·rw[hlen,<-z5];intro u hu;rcases Af.1 hu with hu|hu
       ·rcases Af.1 hu with hu|hu
        ·exact p4 u (Bw hu)
        ·exact q4 u hu
       ·exact p4 u (B1 hu)
      ·rw[hlen,<-z5];exact Db
     refine⟨_,rfl,⟨⟨_,[],[],[g],[],[],rfl,?_,?_,by simp,?_,by simp⟩,BO.weaken λb hb=> .inl (by simp[hb])⟩⟩
     ·rw[g5];show Eb Tryz.prog w' t s.res _ _ [] [g];unfold Eb;rw[hr,if_pos g12];refine⟨[.slice (some ⟨g,0,none⟩) (xs.length+ys.length) cap],[.sl (xs.take i.toNat++ys++xs.drop i.toNat)],by rw[g7];simp,?_⟩;rw[g8];have:=Cj.own (P:=Tryz.prog) (t:=t) (ts:=[]) (fl:=[true]) (us:=[]) (ys:=[]) (rf:=[]) (hs:=[]) rfl g9 (.inl ⟨g10,rfl⟩) (by rw[g11];exact Bd) .nil;simpa using this
     ·rw[g4,Cr,AB,hm];exact .va rfl (.ro rfl (.va rfl .nil))
     ·intro b hb;simp only[AB,List.mem_singleton]at hb;subst hb;exact⟨by rcases E0 with h|h;exact .inl (by simp[h]);exact .inr h,De z3⟩
 ·cases hk
noncomputable def WC{α:Type}(xs:List α)(i:Int)(ys:List α):Option (List α):=req (0<=i/\i<=xs.length/\0<ys.length/\(xs.length+ys.length)*1000<=140737488355328) (some (xs.take i.toNat++ys++xs.drop i.toNat))
theorem zzb{f t it el K:Nat}(hk:Zk Tryz.prog Cd f t it el K=true)(C6:∀r,TQ Tryz.prog Cd f r=true)(MX:Xh Tryz.prog f el K){α:Type}{av:α->AV}{xs ys r:List α}{i:Int}(h:WC xs i ys=some r):
  Cg Tryz.prog Cd f [.sl (xs.map av), .int .i64 i, .sl (ys.map av)] (.sl (r.map av)):=by
 obtain⟨⟨h0,h1,h2,h3⟩,h⟩:=GP h;cases h;have:=zzc hk C6 MX (xs.map av) (ys.map av) i h0 (by simpa using h1) (by cases ys with|nil=>simp at h2|cons=>simp) (by simpa using h3);simpa[List.map_append,List.map_take,List.map_drop]using this
theorem zwo(l:List DT){n i:Nat}(hi:i<=n):B5 n l=B5 i l++B5 (n-i) l:=by rw[<-WH];congr 1;omega
theorem DC.cut{w:World}{xs:List AV}{l:List DT}{K:Nat}{cs:List Value}{N:List Nat}(hK:l.length=K)(h:DC w (B5 xs.length l) cs (Ap xs) N)(hx:∀y∈xs,y.cells.length=K){i:Nat}(hi:i<=xs.length):
  ∃N1 N2,N=N1++N2/\DC w (B5 i l) (cs.take (i*K)) (Ap (xs.take i)) N1/\DC w (B5 (xs.length-i) l) (cs.drop (i*K)) (Ap (xs.drop i)) N2:=by
 have hlen:=h.len;have t1:=mH hx hi;have hmul:=Bf K hi;rw[zwo l hi,<-BC (i*K) cs,<-BC (i*K) (Ap xs)]at h;rw[NT,hK]at hlen;obtain⟨N1,N2,rfl,h1,h2⟩:=DC.dg (by rw[NT,hK,Ax];omega) (by rw[NT,hK,Ax];omega) h;exact⟨N1,N2,rfl,by rw[t1.1];exact h1,by rw[t1.2];exact h2⟩
class J7(P:Program)(el K:Nat)(st it ov:outParam Nat):Prop where
 u:P.underlying st=some (.slice el)
 v:P.underlying it=some (.int .i64)
 i:∃i z,P.info? el=some i/\i.size=K/\i.zero=some z/\z.cells.size=K/\i.bytes<=1000/\0<K
 o:∃fn bt,P.funcs[ov]?=some fn/\(fn.name== "runtime.NumGoroutine")=false/\fn.body.isNone=true/\Extern.findNext fn=none/\Extern.find fn=some (Extern.SlicesOverlaps.overlaps #[st,st] #[bt])
def sV(P:Program)(el K:Nat):Bool:=match P.info? el with
 |some i=>(match i.zero with|some z=>i.size==K&&z.cells.size==K&&decide (i.bytes<=1000)&&decide (0<K)|none=>false)
 |none=>false
theorem zzu{P:Program}{el K:Nat}(h:sV P el K=true):∃i z,P.info? el=some i/\i.size=K/\i.zero=some z/\z.cells.size=K/\i.bytes<=1000/\0<K:=by
 unfold sV at h;split at h
 ·rename_i i hi;split at h
  ·rename_i z hz;simp only[Ab,AJ,Aq]at h;exact⟨i,z,hi,h.1.1.1,hz,h.1.1.2,h.1.2,h.2⟩
  ·cases h
 ·cases h
def iZ(P:Program)(f el K:Nat):Prop:= ∀(w:World) (v:Value) (n:Nat) (cs:List Value) (own:List Nat) (vb vc m:Nat) (VC:Array Value) (vs:List Value),cs.length=n*K->
 ((n=0/\ ∃q,v= .slice q 0 0)\/ ∃g cap C,v= .slice (some ⟨g,0,none⟩) n cap/\EN w el K g cap C n cs/\g∈own)->EN w el K vb vc VC m vs->0<m->(n+m)*1000<=140737488355328->(∀u∈vs,u.oneCell'=true)->
 Calls P f #[v, .int .i64 n, .slice (some ⟨vb,0,none⟩) m vc] w λe w'=> ∃u,e= .returned u/\Oo w w' el K own u (n+m) (cs++vs)
def jC(P:Program)(f el K:Nat):Prop:= ∀(w:World) (n i g cap:Nat) (C:Array Value) (cs:List Value) (own:List Nat) (vb vc m:Nat) (VC:Array Value) (vs:List Value),EN w el K g cap C n cs->i<n->cap<n+m->EN w el K vb vc VC m vs->0<m->(n+m)*1000<=140737488355328->
 (∀u∈vs,u.oneCell'=true)->(∀u∈cs,u.oneCell'=true)->
 Calls P f #[.slice (some ⟨g,0,none⟩) n cap, .int .i64 i, .slice (some ⟨vb,0,none⟩) m vc] w λe w'=> ∃u,e= .returned u/\Oo w w' el K own u (n+m) (cs.take (i*K)++vs++cs.drop (i*K))
def jA(P:Program)(f el K:Nat):Prop:= ∀(w:World) (n i g cap:Nat) (C:Array Value) (cs:List Value) (own:List Nat) (vb vc m:Nat) (VC:Array Value) (vs:List Value),EN w el K g cap C n cs->g∈own->i<n->n+m<=cap->vb≠g->EN w el K vb vc VC m vs->0<m->
 (∀u∈vs,u.oneCell'=true)->(∀u∈cs,u.oneCell'=true)->
 Calls P f #[.slice (some ⟨g,0,none⟩) n cap, .int .i64 i, .slice (some ⟨vb,0,none⟩) m vc] w λe w'=> ∃u,e= .returned u/\Oo w w' el K own u (n+m) (cs.take (i*K)++vs++cs.drop (i*K))
theorem zw8{P:Program}{f el K:Nat}(h1:iZ P f el K)(h2:jC P f el K)(h3:jA P f el K):Xh P f el K:=by
 intro w v n i cs own vb vc m VC vs Ar A6 Cc hv OG hm hb F3 F2;by_cases he:i=n
 ·subst he;refine(h1 w v i cs own vb vc m VC vs Ar A6 hv hm hb F3).mono ?_;rintro e w' ⟨u,rfl,h⟩;refine⟨u,rfl,?_⟩;rw[List.take_of_length_le (by omega),List.drop_eq_nil_of_le (by omega),AB];exact h
 ·rcases A6 with⟨rfl,_⟩|⟨g,cap,C,rfl,hr,hg⟩
  ·omega
  ·by_cases hc:n+m<=cap
   ·exact h3 w n i g cap C cs own vb vc m VC vs hr hg (by omega) hc (OG g hg) hv hm F3 F2
   ·exact h2 w n i g cap C cs own vb vc m VC vs hr (by omega) (by omega) hv hm hb F3 F2
theorem zwk{P:Program}{el K st it ov:Nat}[hI:J7 P el K st it ov]{w:World}{v:Value}{n:Nat}{cs:List Value}{own:List Nat}{vb vc m:Nat}{VC:Array Value}{vs:List Value}(Ar:cs.length=n*K)
  (A6:(n=0/\ ∃q,v= .slice q 0 0)\/ ∃g cap C,v= .slice (some ⟨g,0,none⟩) n cap/\EN w el K g cap C n cs/\g∈own) (hv:EN w el K vb vc VC m vs) (hm:0<m) (hb:(n+m)*1000<=140737488355328) (F3:∀u∈vs,u.oneCell'=true):
  ∃v' w1,(Builtin.append_ #[st,st] st #[v, .slice (some ⟨vb,0,none⟩) m vc]).run P w= .ok v' w1/\Oo w w1 el K own v' (n+m) (cs++vs):=by
 obtain⟨i0,z0,hi,hs,hz,Dr,Fu,hK⟩:=hI.i;have Dq:Src w i0.size (some ⟨vb,0,none⟩) m vs:= .inr ⟨_,rfl,by rw[hs];exact hv.len,λj u hj=>hv.cell 0 j u (by simpa using hj),F3⟩;obtain⟨v',w1,hr,AT⟩:=WW (P:=P) w st st el i0 z0 hI.u hi hz (by rw[Dr,hs]) (by omega) (λb=>b∈own) v n cs (by rw[hs];exact Ar)
  (by
   rcases A6 with h|⟨g,cap,C,rfl,⟨h1,h2,h3,h4,h5⟩,h6⟩
   ·exact .inl h
   ·exact .inr ⟨g,cap,C,rfl,h1,h2,h3,by rw[hs];exact h4,by rw[hs];exact h5,h6⟩)
  (some ⟨vb,0,none⟩) m vc vs Dq (by simp only[maxLen];omega) (by have:=Nat.mul_le_mul_left (n+m) Fu;omega)
 refine⟨v',w1,hr,?_⟩;rcases AT with⟨_,_,h⟩|⟨g,cap,C,rfl,h1,h2,h3,h4,h5,h6,h7⟩
 ·omega
 ·refine⟨g,cap,C,rfl,⟨h1,h2,h3,by rw[hs]at h4;exact h4,by rw[hs]at h5;exact h5.symm⟩,?_,h7.symm.imp id λh=>by omega⟩;refine⟨h6.os,h6.tape,h6.output,h6.size,λb hb hn=>h6.block b hb λe=> ?_⟩;cases e;rcases h7 with h7|h7
  ·omega
  ·exact hn h7
theorem zxl{P:Program}{el K st it ov:Nat}[hI:J7 P el K st it ov]{w:World}{n i g cap:Nat}{C:Array Value}{cs:List Value}(own:List Nat){vb vc m:Nat}{VC:Array Value}{vs:List Value}(A6:EN w el K g cap C n cs)(Cc:i<n)(BR:cap<n+m)
  (hv:EN w el K vb vc VC m vs) (hm:0<m) (hb:(n+m)*1000<=140737488355328) (F3:∀u∈vs,u.oneCell'=true) (F2:∀u∈cs,u.oneCell'=true):
  ∃(G:Nat) (ROW ROW2 ROW3:Array Value),n+m<=G/\G<=9223372036854775807/\
   (∀ty,(Builtin.append_ #[st,it] ty #[.slice (some ⟨g,0,none⟩) i cap, .int .i64 ((n:Int)+(m:Int)-(i:Int))]).run P w= .ok (.slice (some ⟨w.heap.size,0,none⟩) (n+m) G) (w.drew.alloc (.cells ROW el)))/\
   (∀(W:World),W.heap=(w.alloc (.cells ROW el)).heap-> ∀ty dc,(Builtin.copy_ #[st,st] ty #[.slice (some ⟨w.heap.size,i*K,none⟩) (n+m-i) dc, .slice (some ⟨vb,0,none⟩) m vc]).run P W= .ok (goInt m) (W.setRow w.heap.size ROW2))/\
   (∀(W:World),W.heap=((w.alloc (.cells ROW el)).setRow w.heap.size ROW2).heap-> ∀ty dc sc,(Builtin.copy_ #[st,st] ty #[.slice (some ⟨w.heap.size,(i+m)*K,none⟩) (n+m-(i+m)) dc, .slice (some ⟨g,i*K,none⟩) (n-i) sc]).run P W= .ok (goInt ((n-i:Nat):Int)) (W.setRow w.heap.size ROW3))/\
   (∀W:World,W.os=w.os->W.tape=w.tape->W.output=w.output->W.heap=(((w.alloc (.cells ROW el)).setRow w.heap.size ROW2).setRow w.heap.size ROW3).heap->Oo w W el K own (.slice (some ⟨w.heap.size,0,none⟩) (n+m) G) (n+m) (cs.take (i*K)++vs++cs.drop (i*K)))/\
   ((w.alloc (.cells ROW el)).drew).heap=(w.alloc (.cells ROW el)).heap/\(((w.alloc (.cells ROW el)).drew.setRow w.heap.size ROW2).drew).heap=((w.alloc (.cells ROW el)).setRow w.heap.size ROW2).heap:=by
 obtain⟨i0,z0,hi,hs,hz,Dr,Fu,hK⟩:=hI.i;have Ar:=A6.len;have D4:=hv.len;have XV:=A6;obtain⟨M8,ID,hg,MA,Bi⟩:=XV;have Yj:g<w.heap.size:=De hg;have hvw:vb<w.heap.size:=De hv.2.2.1;have BF:(P.info? el).map (·.size)=some K:=by rw[hi];simp[hs]
 have Ub:i+(n+m-i)=n+m:=by omega
 have T8:(n+m)*i0.bytes<=140737488355328:=Nat.le_trans (Nat.mul_le_mul_left _ Fu) hb;have Lm:(n+m-i)*i0.bytes<=140737488355328:=Nat.le_trans (Bf _ (by omega)) T8;have Ym:i*K<=n*K:=Bf _ (by omega);have hold:(Builtin.firstCells i0.size i (.slice (some ⟨g,0,none⟩) i cap)).run P w.drew= .ok (cs.take (i*K)).toArray w.drew:=by
  rw[hs];exact run_firstCells_some w.drew K i ⟨g,0,none⟩ i cap (cs.take (i*K)) (by rw[Ax];omega) (λj v hj=>by
   rw[List.getElem?_take]at hj;split at hj
   ·exact A6.cell 0 j v (by simpa using hj)
   ·cases hj)
 have OF:∀ty,(Builtin.append_ #[st,it] ty #[.slice (some ⟨g,0,none⟩) i cap, .int .i64 ((n:Int)+(m:Int)-(i:Int))]).run P w=
   .ok (.slice (some ⟨w.heap.size,0,none⟩) (n+m) (grownCap w (n+m) cap el)) (w.drew.alloc (.cells ((cs.take (i*K)).toArray++Builtin.zeroCells z0.cells (n+m-i)++Builtin.zeroCells z0.cells (grownCap w (n+m) cap el-(n+m))) el)):=λty=>by
  have h:=Lib.run_append_grow_zeros w st it ty el i0 z0 .i64 .i64 hI.u hI.v hi hz (some ⟨g,0,none⟩) i cap (cs.take (i*K)) hold (n+m-i) (by omega) (by omega) (by omega) (by omega) (by omega) (by rw[Ub];exact growslice_fits BR T8);rw[Ub]at h;rw[show(n:Int)+(m:Int)-(i:Int)=((n+m-i:Nat):Int) by omega];exact h
 obtain⟨G,hG⟩:∃G,G=grownCap w (n+m) cap el:=⟨_,rfl⟩
 obtain⟨ROW,MG⟩:∃ROW:Array Value,ROW=(cs.take (i*K)).toArray++Builtin.zeroCells z0.cells (n+m-i)++Builtin.zeroCells z0.cells (G-(n+m)):=⟨_,rfl⟩
 have T0:n+m<=G:=by rw[hG];exact grownCap_ge w _ _ _
 have QS:G<=maxLen:=by rw[hG];exact grownCap_le_maxLen w (n+m) cap el (by unfold maxLen;omega)
 rw[<-hG]at OF;rw[<-MG]at OF;have e1:(i+m)*K=i*K+m*K:=Nat.add_mul ..;have e2:(n+m)*K=n*K+m*K:=Nat.add_mul ..;have e3:(n+m-i)*K=n*K+m*K-i*K:=by rw[Nat.sub_mul,e2]
 have e4:(n-i)*K=n*K-i*K:=Nat.sub_mul ..;have e5:(G-(n+m))*K=G*K-(n*K+m*K):=by rw[Nat.sub_mul,e2]
 have e6:n*K+m*K<=G*K:=by rw[<-e2];exact Bf _ T0
 have tT:ROW.size=G*K:=by rw[MG];simp only[Array.size_append,List.size_toArray,Ax,size_zeroCells,Dr];omega
 obtain⟨ROW2,QX⟩:∃R:Array Value,R=(ROW.toList.take (i*K)++vs++ROW.toList.drop (i*K+vs.length)).toArray:=⟨_,rfl⟩
 obtain⟨ROW3,XG⟩:∃R:Array Value,R=(ROW2.toList.take ((i+m)*K)++cs.drop (i*K)++ROW2.toList.drop ((i+m)*K+(cs.drop (i*K)).length)).toArray:=⟨_,rfl⟩
 have XF:ROW2.size=G*K:=by rw[QX];simp only[List.size_toArray,AE,Ax,BU,BG];omega
 have XH:ROW3.size=G*K:=by rw[XG];simp only[List.size_toArray,AE,Ax,BU,BG];omega
 obtain⟨N,hN⟩:∃N,N=w.heap.size:=⟨_,rfl⟩
 have hA:(w.alloc (.cells ROW el)).heap[N]?=some (.cells ROW el (0,0)):=by rw[hN];exact heap_alloc_new w _
 have hO:∀k,k<N->(w.alloc (.cells ROW el)).heap[k]?=w.heap[k]?:=λk hk=>Below.heap_alloc w _ k (by omega);have hB:((w.alloc (.cells ROW el)).setRow N ROW2).heap[N]?=some (.cells ROW2 el (0,0)):=setRow_heap _ _ _ _ _ _ hA;have gI:∀k,k<N->((w.alloc (.cells ROW el)).setRow N ROW2).heap[k]?=w.heap[k]?:=λk hk=>by rw[setRow_other _ _ _ _ (by omega)];exact hO k hk
 rw[<-hN]at OF ⊢;refine⟨G,ROW,ROW2,ROW3,T0,QS,OF,λW hW ty dc=> ?_,λW hW ty dc sc=> ?_,λW w1 w2 w3 hW=> ?_,rfl,rfl⟩
 ·have h:=VY (P:=P) W st st ty el K N (i*K) (n+m-i) dc ⟨vb,0,none⟩ m vc ROW el vs hI.u BF (by rw[hW];exact hA) (by rw[D4,show Nat.min m (n+m-i)=m from Nat.min_eq_left (by omega)])
   (λj v hj=>by rw[World.cell?_of_block (w:=w) (by rw[Addr.add_lit,hW];exact hO vb (by omega))];exact hv.cell 0 j v (by simpa using hj)) (by rw[tT,D4];omega) F3
  rw[show Nat.min m (n+m-i)=m from Nat.min_eq_left (by omega),<-QX]at h;exact h
 ·have h:=VY (P:=P) W st st ty el K N ((i+m)*K) (n+m-(i+m)) dc ⟨g,i*K,none⟩ (n-i) sc ROW2 el (cs.drop (i*K)) hI.u BF (by rw[hW];exact hB) (by rw[BU,Ar,show Nat.min (n-i) (n+m-(i+m))=n-i from Nat.min_eq_left (by omega)];omega)
   (λj v hj=>by rw[World.cell?_of_block (w:=w) (by rw[Addr.add_lit,hW];exact gI g (by omega))];exact A6.cell (i*K) j v hj) (by rw[XF,BU,Ar];omega) (λv hv=>F2 v (B1 hv))
  rw[show Nat.min (n-i) (n+m-(i+m))=n-i from Nat.min_eq_left (by omega),<-XG]at h;exact h
 ·refine⟨N,G,ROW3,rfl,⟨T0,QS,by rw[hW];exact setRow_heap _ _ _ _ _ _ hB,XH,?_⟩,⟨w1,w2,w3,by rw[hW];simp,λk hk _=>by rw[hW,setRow_other _ _ _ _ (by omega)];exact gI k (by omega)⟩, .inr (by omega)⟩;have h:=two ((Builtin.zeroCells z0.cells (n+m-i)).toList++(Builtin.zeroCells z0.cells (G-(n+m))).toList) cs vs (i*K) (m*K) (n*K) ROW.toList (by rw[MG];simp) Ar Ym D4 (by simp only[AE,BG,size_zeroCells,Dr];omega);rw[XG,QX,Nat.add_mul n m,Nat.add_mul i m];exact h.symm
theorem zxw{P:Program}{el K st it ov:Nat}[hI:J7 P el K st it ov]{w:World}{n i g cap:Nat}{C:Array Value}{cs:List Value}{own:List Nat}{vb vc m:Nat}{VC:Array Value}{vs:List Value}(A6:EN w el K g cap C n cs)(E0:g∈own)(Cc:i<n)(BR:n+m<=cap)(OG:vb≠g)
  (hv:EN w el K vb vc VC m vs) (hm:0<m) (F3:∀u∈vs,u.oneCell'=true) (F2:∀u∈cs,u.oneCell'=true):
  ∃C1 C2:Array Value,(∀lb cb,(callFunc ov #[.slice (some ⟨vb,0,none⟩) m vc, .slice (some ⟨g,(i+m)*K,none⟩) lb cb]).run P w= .ok (.value (.bool false)) w)/\
   (∀(W:World),W.heap=w.heap-> ∀ty dc sc,(Builtin.copy_ #[st,st] ty #[.slice (some ⟨g,(i+m)*K,none⟩) (n+m-(i+m)) dc, .slice (some ⟨g,i*K,none⟩) (n+m-i) sc]).run P W= .ok (goInt ((n-i:Nat):Int)) (W.setRow g C1))/\
   (∀(W:World),W.heap=(w.setRow g C1).heap-> ∀ty dc,(Builtin.copy_ #[st,st] ty #[.slice (some ⟨g,i*K,none⟩) (n+m-i) dc, .slice (some ⟨vb,0,none⟩) m vc]).run P W= .ok (goInt m) (W.setRow g C2))/\
   (∀W:World,W.os=w.os->W.tape=w.tape->W.output=w.output->W.heap=((w.setRow g C1).setRow g C2).heap->Oo w W el K own (.slice (some ⟨g,0,none⟩) (n+m) cap) (n+m) (cs.take (i*K)++vs++cs.drop (i*K)))/\
   (w.drew).heap=w.heap/\(w.drew.setRow g C1).heap=(w.setRow g C1).heap:=by
 obtain⟨i0,z0,hi,hs,hz,Dr,Fu,hK⟩:=hI.i;obtain⟨fn,bt,f1,f2,f3,f4,f5⟩:=hI.o;have Ar:=A6.len;have D4:=hv.len;have XV:=A6;obtain⟨M8,ID,hg,MA,Bi⟩:=XV;have Yj:g<w.heap.size:=De hg;have BF:(P.info? el).map (·.size)=some K:=by rw[hi];simp[hs]
 have RZ:=hv.2.2.1;have Ym:i*K<=n*K:=Bf _ (by omega);have e1:(i+m)*K=i*K+m*K:=Nat.add_mul ..;have e2:(n+m)*K=n*K+m*K:=Nat.add_mul ..;have e3:(n+m-i)*K=n*K+m*K-i*K:=by rw[Nat.sub_mul,e2]
 have e4:(n-i)*K=n*K-i*K:=Nat.sub_mul ..;have e6:n*K+m*K<=cap*K:=by rw[<-e2];exact Bf _ BR
 have e7:0<cap*K:=Nat.mul_pos (by omega) hK;obtain⟨C1,Lj⟩:∃R:Array Value,R=(C.toList.take ((i+m)*K)++cs.drop (i*K)++C.toList.drop ((i+m)*K+(cs.drop (i*K)).length)).toArray:=⟨_,rfl⟩
 obtain⟨C2,Xw⟩:∃R:Array Value,R=(C1.toList.take (i*K)++vs++C1.toList.drop (i*K+vs.length)).toArray:=⟨_,rfl⟩
 have Xv:C1.size=cap*K:=by rw[Lj];simp only[List.size_toArray,AE,Ax,BU,BG];omega
 have Xx:C2.size=cap*K:=by rw[Xw];simp only[List.size_toArray,AE,Ax,BU,BG];omega
 have hB:(w.setRow g C1).heap[g]?=some (.cells C1 el (0,0)):=setRow_heap _ _ _ _ _ _ hg;have Kr:Nat.min (n+m-i) (n+m-(i+m))=n-i:=by rw[show Nat.min (n+m-i) (n+m-(i+m))=n+m-(i+m)from Nat.min_eq_right (by omega)];omega
 refine⟨C1,C2,λlb cb=> ?_,λW hW ty dc sc=> ?_,λW hW ty dc=> ?_,λW w1 w2 w3 hW=> ?_,rfl,rfl⟩
 ·rw[run_callFunc_extern f1 f2 f3 f4 f5,Lib.run_overlaps_apart w st bt el hI.u K (λw=>by simp[Go.sizeOf,typeInfo,hi,hs]) ⟨vb,0,none⟩ ⟨g,(i+m)*K,none⟩ m vc lb cb OG el el VC.size C.size (by simp[World.shape?,RZ]) (by simp[World.shape?,hg]) (by omega) (by simp[World.frozen?,RZ]) (by simp[World.frozen?,RZ])];rfl
 ·have h:=VY (P:=P) W st st ty el K g ((i+m)*K) (n+m-(i+m)) dc ⟨g,i*K,none⟩ (n+m-i) sc C el (cs.drop (i*K)) hI.u BF (by rw[hW];exact hg) (by rw[BU,Ar,Kr];omega)
   (λj v hj=>by rw[World.cell?_of_block (w:=w) (by rw[hW])];exact A6.cell (i*K) j v hj) (by rw[MA,BU,Ar];omega) (λv hv=>F2 v (B1 hv))
  rw[Kr,<-Lj]at h;exact h
 ·have h:=VY (P:=P) W st st ty el K g (i*K) (n+m-i) dc ⟨vb,0,none⟩ m vc C1 el vs hI.u BF (by rw[hW];exact hB) (by rw[D4,show Nat.min m (n+m-i)=m from Nat.min_eq_left (by omega)])
   (λj v hj=>by rw[World.cell?_of_block (w:=w) (by rw[Addr.add_lit,hW];exact setRow_other _ _ _ _ (by simpa using OG))];exact hv.cell 0 j v (by simpa using hj)) (by rw[Xv,D4];omega) F3
  rw[show Nat.min m (n+m-i)=m from Nat.min_eq_left (by omega),<-Xw]at h;exact h
 ·have no:∀k,¬k∈own->k≠g:=λk hn e=>hn (e▸E0);refine⟨g,cap,C2,rfl,⟨BR,ID,by rw[hW];exact setRow_heap _ _ _ _ _ _ hB,Xx,?_⟩,⟨w1,w2,w3,by rw[hW];simp,λk hk hn=>by rw[hW,setRow_other _ _ _ _ (by first|exact no k hn|exact(no k hn).symm),setRow_other _ _ _ _ (by first|exact no k hn|exact(no k hn).symm)]⟩, .inl E0⟩;have h:=xD C.toList cs vs (i*K) (m*K) (n*K) Bi Ym D4 (by rw[BG,MA];omega);rw[Xw,Lj,Nat.add_mul n m,Nat.add_mul i m];exact h.symm
instance inf_Write:J7 Tryz.prog 52 3 35 3 98:=⟨Tryz.underlying35,Tryz.underlying3,zzu (by kernel_rfl),_,4,Tryz.func98,by kernel_rfl,by kernel_rfl,by kernel_rfl,by kernel_rfl⟩
set_option maxHeartbeats 16000000 in
theorem zxv:iZ Tryz.prog 59 52 3:=by
 refine ?_<;>(
  intro w v n cs own vb vc m VC vs Ar A6 hv hm hb F3;obtain⟨v',w1,hr,fin⟩:=zwk (P:=Tryz.prog) Ar A6 hv hm hb F3;have Up: ¬((m:Int)=0):=by omega
  clear hv F3 Ar;rcases A6 with⟨rfl,_|⟨qb,qo,qs⟩,rfl⟩|⟨g,cap,C,rfl,_,_⟩<;>(
   first|go_enter Tryz.func59,Tryz.ntmps59
   go_wp2_with (at_builtin;refine Lib.wpList_append_run _ rfl _ _ _ _ rfl _ _ rfl rfl _ _ hr ?_)
   all_goals (go_ret;exact⟨_,rfl,fin⟩)))
set_option maxHeartbeats 16000000 in
theorem zwD:jC Tryz.prog 59 52 3:=by
 refine ?_<;>(
  intro w n i g cap C cs own vb vc m VC vs A6 Cc BR hv hm hb F3 F2;obtain⟨G,ROW,ROW2,ROW3,T0,tM,OF,X1,Q9,fin,gB,Xy⟩:=zxl (P:=Tryz.prog) own A6 Cc BR hv hm hb F3 F2;obtain⟨M8,ID,hg,MA, -⟩:=A6;have Yj:=De hg;have Up: ¬((m:Int)=0):=by omega
  have OI: ¬((i:Int)=(n:Int)):=by omega
  have wQ:(cap:Int)<(n:Int)+(m:Int):=by omega
  have hGi: ¬(G=i):=by omega
  have tO: ¬(G=i+m):=by omega
  have Lo: ¬(cap=i):=by omega
  have OH:IntKind.i64.wrap ((i:Int)+(m:Int))=(i:Int)+(m:Int):=by rw[IntKind.wrap_i64];omega
  have Hj:(0:Int)<=(i:Int)+(m:Int):=by omega
  have Yo:i<=n:=by omega
  have YY:((i:Int)+(m:Int)).toNat=i+m:=by omega
  have MJ:(i:Int)<=(n:Int):=by omega
  first|go_enter Tryz.func59,Tryz.ntmps59
  go_wp2_with (first
   |(at_builtin;refine Lib.wpList_append_run _ rfl _ _ _ _ rfl _ _ rfl rfl _ _ (OF _) ?_)
   |(at_builtin;refine aM _ rfl _ _ _ _ rfl _ _ rfl rfl (X1 _ gB _ _) ?_)
   |(at_builtin;refine aM _ rfl _ _ _ _ rfl _ _ rfl rfl (Q9 _ rfl _ _ _) ?_))
  go_region_law (refine lV rfl _ _ _ _ rfl _ _ (by simp[Act.eval,Act.put]) (by simp[Act.eval,Act.put]) (Q9 _ Xy _ (G-(i+m)) (cap-i)) ?_)
  go_wp2
  go_ret
  exact⟨_,rfl,fin _ rfl rfl rfl rfl⟩)
set_option maxHeartbeats 16000000 in
theorem zwv:jA Tryz.prog 59 52 3:=by
 refine ?_<;>(
  intro w n i g cap C cs own vb vc m VC vs A6 E0 Cc BR OG hv hm F3 F2;obtain⟨C1,C2,YH,XZ,X0,fin,Xy,tL⟩:=zxw (P:=Tryz.prog) A6 E0 Cc BR OG hv hm F3 F2;obtain⟨M8,Q3,hg,MA, -⟩:=A6;have Q3:cap<=9223372036854775807:=Q3;have Yj:=De hg;have Up: ¬((m:Int)=0):=by omega
  have OI: ¬((i:Int)=(n:Int)):=by omega
  have wQ: ¬((cap:Int)<(n:Int)+(m:Int)):=by omega
  have Lo: ¬(cap=i):=by omega
  have uG: ¬(cap=i+m):=by omega
  have OH:IntKind.i64.wrap ((i:Int)+(m:Int))=(i:Int)+(m:Int):=by rw[IntKind.wrap_i64];omega
  have Hj:(0:Int)<=(i:Int)+(m:Int):=by omega
  have Yo:i<=n:=by omega
  have YY:((i:Int)+(m:Int)).toNat=i+m:=by omega
  have MJ:(i:Int)<=(n:Int):=by omega
  have hb4:(i:Int)<=(n:Int)+(m:Int):=by omega
  clear hg hv
  first|go_enter Tryz.func59,Tryz.ntmps59
  go_wp2_with (simp only[YH])
  go_region_law (refine lV rfl _ _ _ _ rfl _ _ (by simp[Act.eval,Act.put]) (by simp[Act.eval,Act.put]) (XZ _ Xy _ (cap-(i+m)) (cap-i)) ?_)
  go_wp2_with (at_builtin;refine aM _ rfl _ _ _ _ rfl _ _ rfl rfl (X0 _ tL _ _) ?_)
  go_ret
  exact⟨_,rfl,fin _ rfl rfl rfl rfl⟩)
theorem zv6:Xh Tryz.prog 59 52 3:=zw8 zxv zwD zwv
end Go.Proofs.YtndikjghnmhdmaaGreat
end
section
namespace Go.Proofs.YtndikjghnmhdmaaGreat
open Go.RowKit Go.Sort
def DY{α:Type}(av:α->AV)(x:α):List Value:=(av x).cells.map AV.val
theorem zzW{w:World}:∀{cs:List Value} {ys:List AV} {f:List Nat},Rd w cs ys f->(∀y∈ys,y.scalar=true)->cs=ys.map AV.val:=by
 intro cs ys f h
 induction h with
 |nil=>intro _;rfl
 |int _ _ ih=>intro hy;rw[ih λy m=>hy y (by simp[m])];rfl
 |bool _ ih=>intro hy;rw[ih λy m=>hy y (by simp[m])];rfl
 |str _ _ ih=>intro hy;rw[ih λy m=>hy y (by simp[m])];rfl
 |_=>intro hy;first|(have:=hy _ (List.mem_cons_self ..);simp[AV.scalar]at this)
section
variable {α:Type} {av:α->AV} {k:Nat}
theorem pH(DL:∀x,∀y∈(av x).cells,y.scalar=true){w:World}:∀{xs:List α} {cs:List Value},Rd w cs (Ap (xs.map av)) []->cs=xs.flatMap (DY av)/\ ∀x∈xs,Rd w (DY av x) (av x).cells []
 | [],cs,h=>by have:Ap (List.map av [])=[]:=rfl;rw[this]at h;cases h;exact⟨rfl,by simp⟩
 |x::xs,cs,h=>by
  have e:Ap ((x::xs).map av)=(av x).cells++Ap (xs.map av):=by simp[Ap]
  rw[e]at h;have hl:=h.len;have e2:cs=cs.take (av x).cells.length++cs.drop (av x).cells.length:=(BC _ _).symm;rw[e2]at h;obtain⟨f1,f2,hf,h1,h2⟩:=Rd.dg (by rw[Ax,hl];simp) h;obtain⟨rfl,rfl⟩:f1=[]/\f2=[]:=by simpa using hf.symm
  obtain⟨g1,g2⟩:=pH DL h2;have g3:=zzW h1 (DL x);refine⟨by rw[e2,g3,g1];simp[DY],λy hy=> ?_⟩;rcases Ad.1 hy with rfl|hy
  ·unfold DY;rw[<-g3];exact h1
  ·exact g2 y hy
theorem qW{w:World}:∀{xs:List α},(∀x∈xs,Rd w (DY av x) (av x).cells [])->Rd w (xs.flatMap (DY av)) (Ap (xs.map av)) []
 | [],_=>by simpa[Ap]using Rd.nil
 |x::xs,h=>by
  have e:Ap ((x::xs).map av)=(av x).cells++Ap (xs.map av):=by simp[Ap]
  rw[e,List.flatMap_cons];exact(h x (by simp)).app (qW λy hy=>h y (by simp[hy]))
variable [Inhabited α]
omit [Inhabited α]in
theorem mI{j n k:Nat}(h:j<n*k):0<k:=by
 cases k with
 |zero=>simp at h
 |succ k=>omega
omit [Inhabited α]in
theorem oY{enc:α->List Value}(hk:∀x,(enc x).length=k):∀(l:List α),(l.flatMap enc).length=l.length*k
 | []=>by simp
 |x::l=>by simp only[List.flatMap_cons,AE,hk,oY hk l,AR,Nat.add_mul];omega
theorem pJ{enc:α->List Value}(hk:∀x,(enc x).length=k):∀(l:List α) (j:Nat),j<l.length*k->(l.flatMap enc)[j]?=(enc l[j/k]!)[j % k]?
 | [],j,h=>by simp at h
 |x::l,j,h=>by
  have k0:0<k:=mI h;rw[List.flatMap_cons];by_cases hj:j<k
  ·rw[List.getElem?_append_left (by rw[hk];exact hj),Nat.div_eq_of_lt hj,Nat.mod_eq_of_lt hj];rfl
  ·rw[List.getElem?_append_right (by rw[hk];omega),hk,pJ hk l (j-k) (by simp only[AR,Nat.add_mul]at h;omega)];obtain⟨i,rfl⟩:∃i,j=i+k:=⟨j-k,by omega⟩
   rw[Nat.add_sub_cancel,Nat.add_div_right _ k0,Nat.add_mod_right];rfl
theorem nD{enc:α->List Value}(hk:∀x,(enc x).length=k)(d:Array α):(flatK enc k d).toList=d.toList.flatMap enc:=by
 apply List.ext_getElem?;intro j;by_cases hj:j<d.size*k
 ·have k0:0<k:=mI hj;have hd:j/k<d.size:=Nat.div_lt_of_lt_mul (by rw[Nat.mul_comm];exact hj);have hm:j % k<k:=Nat.mod_lt _ k0;rw[pJ hk _ _ (by simpa using hj)];have h1:=get_flatK enc k d j hj;rw[Array.getElem?_toList,Array.getElem?_eq_getElem (by simpa using hj),<-getElem!_pos (flatK enc k d) j (by simpa using hj),h1];rw[show(d.toList[j/k]!)=(d[j/k]!) by simp[hd],BH (by rw[hk];exact hm),getElem!_pos _ _ (by rw[hk];exact hm)]
 ·rw[List.getElem?_eq_none (by simpa using hj),List.getElem?_eq_none (by rw[oY hk];simpa using hj)]
theorem zpU(F C:Array Value)(h:F.size<=C.size):(Go.Sort.putCells id 0 F C).toList.take F.size=F.toList:=by
 apply List.ext_getElem?;intro j;by_cases hj:j<F.size
 ·have hc:j<C.size:=by omega
  simp[Go.Sort.putCells,List.getElem?_take,hj,hc]
 ·rw[List.getElem?_eq_none (by simp;omega),List.getElem?_eq_none (by simpa using hj)]
theorem zsa{enc:α->List Value}{w:World}{g m:Nat}{C:Array Value}{el:TypeId}{d:Array α}{os:Array Obj}(h:w.heap[g]?=some (.cells C el (0,0))):
  (sortWorldK enc k w g 0 m d os).heap[g]?=some (.cells (Go.Sort.putCells id 0 (flatK enc k d) C) el (0,0)):=by
 have hg:=De h;show((w.heap.modify g (onCells (Go.Sort.putCells id 0 (flatK enc k d))))++os)[g]?=_;rw[Array.getElem?_append_left (by simpa using hg),Array.getElem?_modify,if_pos rfl,h];rfl
theorem ztW{enc:α->List Value}{w:World}{g m:Nat}{d:Array α}{os:Array Obj}:Mod [g] w (sortWorldK enc k w g 0 m d os):=by
 refine⟨rfl,rfl,rfl,?_,λj hj hn=> ?_⟩
 ·show w.heap.size<=((w.heap.modify g (onCells (Go.Sort.putCells id 0 (flatK enc k d))))++os).size;simp
 ·show((w.heap.modify g (onCells (Go.Sort.putCells id 0 (flatK enc k d))))++os)[j]?=_;rw[Array.getElem?_append_left (by simpa using hj),Array.getElem?_modify,if_neg (by simpa[eq_comm]using hn)]
end
def iY(P:Program)(sg:BN)(f:Nat)(t ft el K:Nat):Bool:=
 match P.funcs[f]?,sg f with
 |some fn,some s=>(match s.bj,s.res,s.ft,s.lo with
  | [.mu [true], .ro],[],[],[]=>true
  |_,_,_,_=>false)&&fn.body.isSome&& !(fn.name== "runtime.NumGoroutine")&&fn.params.toList==[t,ft]&&fn.resultTypes.toList==[]&&fn.nfree==0&& !Aj P t&&A2 P t==[t]&&Co P t==some el&&B4 P el&&P.cellsOf el==K&&fn.params.size==2
 |_,_=>false
theorem zwI{f g t ft el k:Nat}{α:Type}[Inhabited α]{av:α->AV}(S:Array α->Array α)(hk:iY Tryz.prog Cd f t ft el k=true)
  (DL:∀x,∀y∈(av x).cells,y.scalar=true) (hlen:∀x,(av x).cells.length=k) (tV:∀d:Array α,(S d).toList.Perm d.toList)
  (hS:∀(blk cap:Nat) (d:Array α) (w:World),HoldsK (DY av) k w blk 0 d->blk<w.heap.size->d.size<4611686018427387904->
   Calls Tryz.prog f #[.slice (some ⟨blk,0,none⟩) d.size cap, .func (.func g) #[] #[]] w λe w'=>e= .returned (.tuple #[])/\ ∃n os,w'=sortWorldK (DY av) k w blk 0 n (S d) os)
  (h0:∀p cap fv w,Calls Tryz.prog f #[.slice p 0 cap,fv] w λe w'=>e= .returned (.tuple #[])/\w'=w)
  (xs:List α) (hb:xs.length<4611686018427387904):Cg Tryz.prog Cd f [.sl (xs.map av), .fn g []] (.tup [.tup [], .sl ((S xs.toArray).toList.map av)]):=by
 unfold iY at hk;split at hk
 ·rename_i fn s hf hs;simp only[Ab,Br,AJ]at hk;obtain⟨⟨⟨⟨⟨⟨⟨⟨⟨⟨⟨g1,g2⟩,g3⟩,g4⟩,g5⟩,g6⟩,g7⟩,g8⟩,g9⟩,g10⟩,g11⟩,g13⟩:=hk;obtain⟨hm,hr,Cr,BQ⟩:s.bj=[.mu [true], .ro]/\s.res=[]/\s.ft=[]/\s.lo=[]:=by
   split at g1
   ·rename_i a b c d;exact⟨a,b,c,d⟩
   ·cases g1
  have B7:∀x,(DY av x).length=k:=λx=>by simp[DY,hlen]
  have hp:=tV xs.toArray;have Ev:(S xs.toArray).toList.length=xs.length:=by simpa using hp.length_eq
  unfold Cg;rw[if_pos (K2 f s hs)];refine⟨s,hs,fn,hf,g2,g3,?_,by simp[g6,g13],by simp[Cr],λw vs rf lf Ba Ah hd _ BZ DR=> ?_⟩
  ·unfold JN Qp;rw[g4,g5,Cr,AB,hm];simp[Bl,Qk,GK]
  rw[g4,Cr,AB,hm,BQ]at Ah;cases Ah with
  |lent h _ _ _=>cases h
  | @cons _ _ _ _ v1 vs1 _ _ f1 k1 rf1 lf1 BE a1 Ah=>
   cases Ah with
   |lent h _ _ _=>cases h
   | @cons _ _ _ _ v2 vs2 _ _ f2 k2 rf2 lf2 A1 a2 Ah=>
    cases Ah;obtain⟨rfl,r1⟩:=S1 g7 g8 g9 g10 a1;obtain⟨a2,rfl⟩:Rd w [v2] [AV.fn g []] f2/\k2=[]:=a2;obtain⟨rfl,rfl⟩:v2= .func (.func g) #[] #[]/\f2=[]:=by
     cases a2 with
     |fn b1 b2=>cases b1;cases b2;exact⟨rfl,rfl⟩
    obtain⟨xs',cs,e1,p0,p1,p2,p3,p4,p5⟩:=r1.iw;cases e1;rw[g11]at p0 p1 p2 p5;have Gz:(xs.map av).length=xs.length:=by simp
    rcases p5 with⟨Dp,rfl,q,rfl⟩|⟨b,cap,C,rfl,⟨z1,z2,z3,z4,z5⟩,rfl⟩
    ·have B3:xs=[]:=by simpa using Dp
     subst B3;have XI:(S #[]).toList=[]:=by simpa using Ev
     refine(h0 q 0 _ w).mono ?_;rintro e w' ⟨rfl,rfl⟩;refine⟨_,rfl,⟨⟨.tup [],[.sl []],[],[],[],[],by simp[XI],?_,?_,by simp,by simp,by simp⟩,Mod.refl _ _⟩⟩
     ·rw[g5];exact⟨[],[],rfl,rfl, .nil⟩
     ·rw[g4,Cr,AB,hm];have EU:Ec Tryz.prog w' (A2 Tryz.prog t) [true] [.slice q 0 0] [.sl []] [] []:=by
       rw[g8];have:=Ec.own (P:=Tryz.prog) (w:=w') (t:=t) (ts:=[]) (fl:=[true]) (us:=[]) (ys:=[]) rfl g9 (.inl ⟨g10,rfl⟩) (y:= .sl []) (u:= .slice q 0 0) (top:=[]) (by rw[g11];exact⟨[],rfl,by simp,p0, .inl ⟨rfl,⟨q,rfl⟩,rfl,rfl⟩⟩) .nil;simpa using this
      have:=Dg.mu (P:=Tryz.prog) (w:=w') (t:=t) (ts:=[ft]) (ms:=[.mu [true], .ro]) (own:=[true]) (v:= .slice q 0 0) (vs:=[.func (.func g) #[] #[]]) (us:=[.slice q 0 0]) (ys:=[.sl []]) (y:= .sl []) (bs:=[]) (f:=[]) (o1:=[]) (o:=[]) rfl (by rw[g7];simp) EU (.ro rfl .nil);simpa using this
    ·obtain⟨q1,q2⟩:=pH DL p3;have Ln:=De z3;have Bh:∀o,w.cell? ⟨b,o,none⟩=C[o]?:=P1 z3;have Yb:(flatK (DY av) k xs.toArray).toList=xs.flatMap (DY av):=by rw[nD B7]
     have hmul:=Bf k z1;rw[Gz]at z1 z5 hmul;have hH:HoldsK (DY av) k w b 0 xs.toArray:=by
      intro j hj;rw[size_flatK]at hj;have H5:j<xs.length*k:=by simpa using hj
      refine⟨?_,VV z3⟩;rw[Bh,Nat.zero_add];have e1:C[j]?=cs[j]?:=by rw[z5,List.getElem?_take,if_pos H5];simp
      rw[e1,q1,<-Yb,Array.getElem?_toList,Array.getElem?_eq_getElem (by simpa using hj),<-getElem!_pos (flatK (DY av) k xs.toArray) j (by simpa using hj)];rfl
     have hc:=hS b cap xs.toArray w hH Ln (by simpa using hb);rw[show xs.toArray.size=(xs.map av).length by simp]at hc;refine hc.mono ?_;rintro e w' ⟨rfl,n,os,rfl⟩;have BO:Mod [b] w (sortWorldK (DY av) k w b 0 n (S xs.toArray) os):=ztW;have CM:=zsa (enc:=DY av) (k:=k) (m:=n) (d:=S xs.toArray) (os:=os) z3;generalize sortWorldK (DY av) k w b 0 n (S xs.toArray) os=w' at BO CM;have BF:(S xs.toArray).size=xs.length:=by simpa using Ev
     have gD:(flatK (DY av) k (S xs.toArray)).size=xs.length*k:=by rw[size_flatK,BF]
     have Bo:(Go.Sort.putCells id 0 (flatK (DY av) k (S xs.toArray)) C).toList.take (xs.length*k)=(S xs.toArray).toList.flatMap (DY av):=by rw[<-gD,zpU _ _ (by rw[gD,z4];exact hmul),nD B7]
     have CE:∀x∈(S xs.toArray).toList,x∈xs:=λx hx=>by simpa using hp.mem_iff.1 hx
     have Db:Rd w' ((S xs.toArray).toList.flatMap (DY av)) (Ap ((S xs.toArray).toList.map av)) []:=(qW λx hx=>q2 x (CE x hx)).frame (by simp);have Bd:CA w' el k (.slice (some ⟨b,0,none⟩) (xs.map av).length cap) (.sl ((S xs.toArray).toList.map av)) [b] []:=by
      refine⟨_,rfl,λy hy=> ?_,p0, .inr ⟨b,cap,_,by simp[Ev],by simpa[Ev]using z1,z2,CM,by simp[Go.Sort.putCells,z4],rfl,?_,?_⟩⟩
      ·obtain⟨x,_,rfl⟩:=List.mem_map.1 hy;exact hlen x
      ·rw[List.length_map,Ev,Bo];intro u hu;obtain⟨x,hx,hu⟩:=List.mem_flatMap.1 hu;exact p4 u (by rw[q1];exact List.mem_flatMap.2 ⟨x,CE x hx,hu⟩)
      ·rw[List.length_map,Ev,Bo];exact Db
     refine⟨_,rfl,⟨⟨.tup [],[.sl ((S xs.toArray).toList.map av)],[],[],[],[b],rfl,?_,?_,by simp,?_,by simp⟩,BO.weaken λj hj=> .inl (by simpa using hj)⟩⟩
     ·rw[g5];exact⟨[],[],rfl,rfl, .nil⟩
     ·rw[g4,Cr,AB,hm];have EU:Ec Tryz.prog w' (A2 Tryz.prog t) [true] [.slice (some ⟨b,0,none⟩) (xs.map av).length cap] [.sl ((S xs.toArray).toList.map av)] [] [b]:=by
       rw[g8];have:=Ec.own (P:=Tryz.prog) (w:=w') (t:=t) (ts:=[]) (fl:=[true]) (us:=[]) (ys:=[]) rfl g9 (.inl ⟨g10,rfl⟩) (by rw[g11];exact Bd) .nil;simpa using this
      have:=Dg.mu (P:=Tryz.prog) (w:=w') (t:=t) (ts:=[ft]) (ms:=[.mu [true], .ro]) (own:=[true]) (v:= .slice (some ⟨b,0,none⟩) (xs.map av).length cap) (vs:=[.func (.func g) #[] #[]]) (us:=[.slice (some ⟨b,0,none⟩) (xs.map av).length cap]) (ys:=[.sl ((S xs.toArray).toList.map av)]) (y:= .sl ((S xs.toArray).toList.map av)) (bs:=[]) (f:=[]) (o:=[]) rfl (by rw[g7];simp) EU (.ro rfl .nil);simpa using this
     ·intro j hj;simp only[List.nil_append,List.mem_singleton]at hj;subst hj;exact⟨.inl (by simp),De CM⟩
 ·cases hk
end Go.Proofs.YtndikjghnmhdmaaGreat
end
section
namespace Go.Proofs.YtndikjghnmhdmaaGreat
open Go Go.Proofs Go.Shelf Go.Sort
set_option maxRecDepth 100000
set_option maxHeartbeats 1000000
theorem fH(s:ByteArray)(W:World):Calls Tryz.prog 81 #[.string s] W λe w'=>e= .returned (.bool false)/\w'=W:=by
 go_enter Tryz.func81,Tryz.ntmps81
 go_wp2
 go_ret
 exact⟨rfl,rfl⟩
def Ot(a b:ByteArray):Int:=if Op.bytesLess a.toList b.toList then-1 else if a.toList==b.toList then 0 else 1
theorem xN(a b:ByteArray)(W:World):(binOp .gtr 9 (.string a) (.string b)).run Tryz.prog W= .ok (.bool (!(Op.bytesLess a.toList b.toList||a.toList==b.toList))) W:=by kernel_rfl
theorem zxs(a b:ByteArray)(W:World):Calls Tryz.prog 46 #[.string a, .string b] W λe w'=>e= .returned (.int .i64 (Ot a b))/\w'=W:=by
 have hg:=xN a b;unfold Ot;by_cases h1:Op.bytesLess a.toList b.toList=true
 ·rw[if_pos h1]
  go_enter Tryz.func46,Tryz.ntmps46
  go_wp2_with (go_at_call 81;refine(fH _ _).mono ?_;rintro e w' ⟨rfl,rfl⟩)
  go_ret
  exact⟨rfl,rfl⟩
 ·have TY:Op.bytesLess a.toList b.toList=false:=by simpa using h1
  rw[if_neg h1];clear h1;by_cases h2:(a.toList==b.toList)=true
  ·rw[if_pos h2]
   go_enter Tryz.func46,Tryz.ntmps46
   go_wp2_with (go_at_call 81;refine(fH _ _).mono ?_;rintro e w' ⟨rfl,rfl⟩)
   go_ret
   exact⟨rfl,rfl⟩
  ·have Xs:(a.toList==b.toList)=false:=by simpa using h2
   rw[if_neg h2];clear h2
   go_enter Tryz.func46,Tryz.ntmps46
   go_wp2_with (go_at_call 81;refine(fH _ _).mono ?_;rintro e w' ⟨rfl,rfl⟩)
   go_ret
   exact⟨rfl,rfl⟩
def R4(x y z:Int):Int:=if x≠0 then x else if y≠0 then y else z
theorem x6(x y z:Int)(b:Nat)(W:World)(h0:W.cell? ⟨b,0,none⟩=some (.int .i64 x))(h1:W.cell? ⟨b,1,none⟩=some (.int .i64 y))(h2:W.cell? ⟨b,2,none⟩=some (.int .i64 z)):
  Calls Tryz.prog 44 #[.slice (some ⟨b,0,none⟩) 3 3] W λe w'=>e= .returned (.int .i64 (R4 x y z))/\w'=W:=by
 unfold R4;by_cases hx:x=0
 ·subst hx;by_cases hy:y=0
  ·subst hy;by_cases hz:z=0
   ·subst hz
    go_enter Tryz.func44,Tryz.ntmps44
    go_wp2
    refine wp_loop_rounds 4 ?_;rw[rounds_succ]
    go_wp2
    rw[rounds_succ]
    go_wp2
    rw[rounds_succ]
    go_wp2
    rw[rounds_succ]
    go_wp2
    go_ret
    exact⟨rfl,rfl⟩
   ·go_enter Tryz.func44,Tryz.ntmps44
    go_wp2
    refine wp_loop_rounds 3 ?_;rw[rounds_succ]
    go_wp2
    rw[rounds_succ]
    go_wp2
    rw[rounds_succ]
    go_wp2
    go_ret
    exact⟨rfl,rfl⟩
  ·rw[if_neg (by simp),if_pos hy]
   go_enter Tryz.func44,Tryz.ntmps44
   go_wp2
   refine wp_loop_rounds 2 ?_;rw[rounds_succ]
   go_wp2
   rw[rounds_succ]
   go_wp2
   go_ret
   exact⟨rfl,rfl⟩
 ·rw[if_pos hx]
  go_enter Tryz.func44,Tryz.ntmps44
  go_wp2
  refine wp_loop_rounds 1 ?_;rw[rounds_succ]
  go_wp2
  go_ret
  exact⟨rfl,rfl⟩
def sK(t1 g1:Int)(k1:ByteArray)(t2 g2:Int)(k2:ByteArray):Int:=R4 (Lib.compareInt t1 t2) (Lib.compareInt g1 g2) (Ot k1 k2)
theorem zyQ(t1 g1:Int)(k1 v1:ByteArray)(d1:Bool)(t2 g2:Int)(k2 v2:ByteArray)(d2:Bool)(W:World):
  Calls Tryz.prog 19 #[.agg #[.int .i64 t1, .int .i64 g1, .string k1, .string v1, .bool d1], .agg #[.int .i64 t2, .int .i64 g2, .string k2, .string v2, .bool d2]] W λe w'=>
   e= .returned (.int .i64 (sK t1 g1 k1 t2 g2 k2))/\ ∃q os',w'=grow (W.drewN q) os':=by
 unfold sK;have Lo:=Tryz.cmp_Compare_int;have Bi:=zxs;have vK:=x6
 go_enter Tryz.func19,Tryz.ntmps19
 go_wp2_with fail
 have c0:∀A B:Obj,((W.alloc A).alloc B).drew.heap[W.heap.size]?=some A:=λA B=>by show((W.heap.push A).push B)[W.heap.size]?=some A;simp[Array.getElem?_push]
 have c1:∀A B:Obj,((W.alloc A).alloc B).drew.heap[W.heap.size+1]?=some B:=λA B=>by
  show((W.heap.push A).push B)[W.heap.size+1]?=some B;have h:W.heap.size+1=(W.heap.push A).size:=by simp
  rw[h,Array.getElem?_push_size]
 have hd:∀A B:Obj,∃q os,((W.alloc A).alloc B).drew=grow (W.drewN q) os:=λA B=>⟨1, #[A,B],by rw[alloc_eq_grow,alloc_eq_grow,grow_grow];rfl⟩
 refine wp_region_still_tail 15 (by kernel_rfl) (by kernel_rfl) ?_;simp only[List.take_succ_cons,List.take_zero,List.drop_succ_cons,List.drop_zero];change wpStill _ _ (World.drew _) (λa'=>wpList _ _ _ _ a' (World.drew _)) _ _;have b0:=P1 (c0 (.cells #[.int .i64 t1, .int .i64 g1, .string k1, .string v1, .bool d1] 34) (.cells #[.int .i64 t2, .int .i64 g2, .string k2, .string v2, .bool d2] 34));have b1:=P1 (c1 (.cells #[.int .i64 t1, .int .i64 g1, .string k1, .string v1, .bool d1] 34) (.cells #[.int .i64 t2, .int .i64 g2, .string k2, .string v2, .bool d2] 34));have hq:=hd (.cells #[.int .i64 t1, .int .i64 g1, .string k1, .string v1, .bool d1] 34) (.cells #[.int .i64 t2, .int .i64 g2, .string k2, .string v2, .bool d2] 34);clear c0 c1 hd;generalize ((W.alloc (.cells #[.int .i64 t1, .int .i64 g1, .string k1, .string v1, .bool d1] 34)).alloc (.cells #[.int .i64 t2, .int .i64 g2, .string k2, .string v2, .bool d2] 34)).drew=W2 at*;obtain⟨q,os,hq⟩:=hq;have HQ:=Lib.hid hq;clear hq
 repeat still_step
 still_call (Lo _ _ _)
 repeat still_step
 still_call (Lo _ _ _)
 repeat still_step
 still_call (Bi _ _ _)
 refine wpStill_nil ?_;change wpList _ _ _ _ _ W2
 go_wp2_with (go_at_call 44;refine(vK (Lib.compareInt t1 t2) (Lib.compareInt g1 g2) (Ot k1 k2) _ _ (by simp) (by simp) (by simp)).mono ?_;rintro e w' ⟨rfl,rfl⟩)
 have H:=HQ.out
 go_ret
 exact⟨rfl,q,_,by rw[H,alloc_eq_grow,grow_grow]⟩
end Go.Proofs.YtndikjghnmhdmaaGreat
end
section
namespace Go.Proofs
open Go.Shelf
def Tryz.eo:Go.Shelf.Ren:=⟨λ|6=>18|15=>43|14=>42|28=>78|29=>79|20=>70|21=>71|22=>72|23=>73|24=>74|25=>75|26=>76|27=>77|46=>121|47=>122|48=>123|49=>124|50=>125|57=>149|n=>n,λ|22=>28|24=>34|25=>63|3=>3|39=>94|0=>0|53=>127|55=>129|4=>4|46=>121|45=>120|50=>65|5=>5|9=>9|66=>164|70=>168|76=>182|77=>183|n=>n,λ|n=>n⟩
theorem Tryz.eu:Go.Proofs.SlLaysF0.n6 Tryz.prog Tryz.eo:={
 mixed:=by kernel_rfl
 f6:=⟨Tryz.f18.name,by decide,Tryz.func18.trans (congrArg some (by kernel_rfl))⟩
 f14:=⟨Tryz.f42.name,by decide,Tryz.func42.trans (congrArg some (by kernel_rfl))⟩
 f15:=Tryz.func43.trans (congrArg some (by kernel_rfl))
 f20:=⟨Tryz.f70.name,by decide,Tryz.func70.trans (congrArg some (by kernel_rfl))⟩
 f21:=⟨Tryz.f71.name,by decide,Tryz.func71.trans (congrArg some (by kernel_rfl))⟩
 f22:=⟨Tryz.f72.name,by decide,Tryz.func72.trans (congrArg some (by kernel_rfl))⟩
 f23:=⟨Tryz.f73.name,by decide,Tryz.func73.trans (congrArg some (by kernel_rfl))⟩
 f24:=⟨Tryz.f74.name,by decide,Tryz.func74.trans (congrArg some (by kernel_rfl))⟩
 f25:=⟨Tryz.f75.name,by decide,Tryz.func75.trans (congrArg some (by kernel_rfl))⟩
 f26:=⟨Tryz.f76.name,by decide,Tryz.func76.trans (congrArg some (by kernel_rfl))⟩
 f27:=⟨Tryz.f77.name,by decide,Tryz.func77.trans (congrArg some (by kernel_rfl))⟩
 f28:=Tryz.func78.trans (congrArg some (by kernel_rfl))
 f29:=Tryz.func79.trans (congrArg some (by kernel_rfl))
 f46:=⟨Tryz.f121.name,by decide,Tryz.func121.trans (congrArg some (by kernel_rfl))⟩
 f47:=Tryz.func122.trans (congrArg some (by kernel_rfl))
 f48:=Tryz.func123.trans (congrArg some (by kernel_rfl))
 f49:=⟨Tryz.f124.name,by decide,Tryz.func124.trans (congrArg some (by kernel_rfl))⟩
 f50:=⟨Tryz.f125.name,by decide,Tryz.func125.trans (congrArg some (by kernel_rfl))⟩
 f57:=⟨Tryz.f149.name,by decide,Tryz.func149.trans (congrArg some (by kernel_rfl))⟩
 t0:=Tryz.underlying0
 a0:=Tryz.isAgg0
 z0:=Tryz.sizeOf0
 v0:=Tryz.zeroValue0
 t3:=Tryz.underlying3
 a3:=Tryz.isAgg3
 z3:=Tryz.sizeOf3
 v3:=Tryz.zeroValue3
 t4:=Tryz.underlying4
 a4:=Tryz.isAgg4
 z4:=Tryz.sizeOf4
 v4:=Tryz.zeroValue4
 t5:=Tryz.underlying5
 a5:=Tryz.isAgg5
 z5:=Tryz.sizeOf5
 v5:=Tryz.zeroValue5
 t9:=Tryz.underlying9
 a9:=Tryz.isAgg9
 z9:=Tryz.sizeOf9
 v9:=Tryz.zeroValue9
 t22:=Tryz.underlying28
 a22:=Tryz.isAgg28
 z22:=Tryz.sizeOf28
 v22:=Tryz.zeroValue28
 t25:=Tryz.underlying63
 a25:=Tryz.isAgg63
 z25:=Tryz.sizeOf63
 v25:=Tryz.zeroValue63
 t39:=Tryz.underlying94
 a39:=Tryz.isAgg94
 z39:=Tryz.sizeOf94
 v39:=Tryz.zeroValue94
 t45:=Tryz.underlying120
 a45:=Tryz.isAgg120
 z45:=Tryz.sizeOf120
 v45:=Tryz.zeroValue120
 t46:=Tryz.underlying121
 a46:=Tryz.isAgg121
 z46:=Tryz.sizeOf121
 v46:=Tryz.zeroValue121
 t50:=Tryz.underlying65
 a50:=Tryz.isAgg65
 z50:=Tryz.sizeOf65
 v50:=Tryz.zeroValue65
 t53:=Tryz.underlying127
 a53:=Tryz.isAgg127
 z53:=Tryz.sizeOf127
 v53:=Tryz.zeroValue127
 t55:=Tryz.underlying129
 a55:=Tryz.isAgg129
 z55:=Tryz.sizeOf129
 v55:=Tryz.zeroValue129
 t66:=Tryz.underlying164
 a66:=Tryz.isAgg164
 z66:=Tryz.sizeOf164
 v66:=Tryz.zeroValue164
 t70:=Tryz.underlying168
 a70:=Tryz.isAgg168
 z70:=Tryz.sizeOf168
 v70:=Tryz.zeroValue168
 t76:=Tryz.underlying182
 a76:=Tryz.isAgg182
 z76:=Tryz.sizeOf182
 v76:=Tryz.zeroValue182
 t77:=Tryz.underlying183
 a77:=Tryz.isAgg183
 z77:=Tryz.sizeOf183
 v77:=Tryz.zeroValue183}
end Go.Proofs
end
section
namespace Go.Proofs.YtndikjghnmhdmaaGreat
open Go.RowKit
theorem AW{α:Type}{xs:List α}{i:Nat}(h:i<xs.length):getI xs (i:Int)=some xs[i]:=by simp[getI,h]
theorem rO{α:Type}{xs:List α}{i:Int}(h0:0<=i)(h:i<xs.length):∃x,getI xs i=some x/\x∈xs/\xs[i.toNat]?=some x:=by
 have hi:i.toNat<xs.length:=by omega
 exact⟨xs[i.toNat],by simp[getI,h0,hi],AO hi,by simp[hi]⟩
theorem D9{q n:Nat}(h:q<n)(hn:n<=9223372036854775807):IntKind.i64.wrap ((q:Int)+1)=((q+1:Nat):Int):=by rw[CS (by omega) (by omega)];simp
theorem A8{α:Type}{p:Prop}{k:Option α}(h:p):req p k=k:=by simp[req,h]
def GU{α σ β:Type}(step:α->σ->Option (σ ⊕ Option β))(fin:σ->Option β):List α->σ->Option β
 | [],s=>fin s
 |x::xs,s=>match step x s with
  |none=>none
  |some (.inl s')=>GU step fin xs s'
  |some (.inr o)=>o
def Om{σ τ β:Type}(f:σ->τ):Option (σ ⊕ Option β)->Option (τ ⊕ Option β)
 |none=>none
 |some (.inl s)=>some (.inl (f s))
 |some (.inr o)=>some (.inr o)
theorem zu9{α σ τ β:Type}{xs:List α}{body:τ->Option (τ ⊕ Option β)}(emb:Int->σ->τ)(step:α->σ->Option (σ ⊕ Option β))(fin:σ->Option β)(q0:Nat)
  (hs:∀(i:Nat) (hi:i<xs.length) (s:σ),q0<=i->body (emb i s)=Om (emb ((i+1:Nat):Int)) (step xs[i] s)) (he:∀s,body (emb xs.length s)=some (.inr (fin s))) (s:σ) (h0:q0<=xs.length):AG body (emb q0 s)=GU step fin (xs.drop q0) s:=by
 have key:∀(n q:Nat) (s:σ),q0<=q->q+n=xs.length->AG body (emb q s)=GU step fin (xs.drop q) s:=by
  intro n
  induction n with
  |zero=>
   intro q s _ hq;have:q=xs.length:=by omega
   subst this;rw[Eh,he s];simp[GU]
  |succ n ih=>
   intro q s h0 hq;have AL:q<xs.length:=by omega
   rw[Eh,hs q AL s h0,Be AL];rcases I1:step xs[q] s with _|s'|o
   ·simp[GU,I1,Om]
   ·simp only[GU,I1,Om];exact ih (q+1) s' (by omega) (by omega)
   ·simp[GU,I1,Om]
 exact key (xs.length-q0) q0 s (Av _) (by omega)
theorem Wn{α σ τ β:Type}{xs:List α}{body:τ->Option (τ ⊕ Option β)}(emb:Int->σ->τ)(step:α->σ->Option (σ ⊕ Option β))(fin:σ->Option β)
  (hs:∀(i:Nat) (hi:i<xs.length) (s:σ),body (emb i s)=Om (emb ((i+1:Nat):Int)) (step xs[i] s)) (he:∀s,body (emb xs.length s)=some (.inr (fin s))) (s:σ):AG body (emb 0 s)=GU step fin xs s:=by
 have:=zu9 emb step fin 0 (λi hi s _=>hs i hi s) he s (by omega);simpa using this
theorem eL{α σ β:Type}{step:α->σ->Option (σ ⊕ Option β)}{fin:σ->Option β}{xs:List α}(p:α->Bool)(b:β)(h:∀x∈xs,∀s,step x s=some (if p x=true then .inl s else .inr (some b)))(s:σ):GU step fin xs s=if xs.all p=true then fin s else some b:=by
 induction xs with
 |nil=>simp[GU]
 |cons x xs ih=>
  simp only[GU,h x (by simp) s];cases hp:p x with
  |true=>simp[hp,ih λy hy=>h y (by simp[hy])]
  |false=>simp[hp]
theorem zwm{α σ β:Type}{step:α->σ->Option (σ ⊕ Option β)}{fin:σ->Option β}{xs:List α}(f:σ->α->σ)(I:σ->Prop)(hI:∀x∈xs,∀s,I s->I (f s x))(h:∀x∈xs,∀s,I s->step x s=some (.inl (f s x))){s:σ}(hs:I s):GU step fin xs s=fin (xs.foldl f s):=by
 induction xs generalizing s with
 |nil=>simp[GU]
 |cons x xs ih=>simp only[GU,h x (by simp) s hs,List.foldl_cons];exact ih (λy hy=>hI y (by simp[hy])) (λy hy=>h y (by simp[hy])) (hI x (by simp) s hs)
theorem GD{α σ τ β:Type}{xs:List α}{body:τ->Option (τ ⊕ Option β)}(emb:Int->σ->τ)(f:σ->α->σ)(fin:σ->Option β)(I:Nat->σ->Prop)
  (hs:∀(i:Nat) (hi:i<xs.length) (s:σ),I i s->body (emb i s)=some (.inl (emb ((i+1:Nat):Int) (f s xs[i])))/\I (i+1) (f s xs[i])) (he:∀s,I xs.length s->body (emb xs.length s)=some (.inr (fin s))) {s:σ} (h0:I 0 s):AG body (emb 0 s)=fin (xs.foldl f s)/\I xs.length (xs.foldl f s):=by
 have key:∀(n q:Nat) (s:σ),q+n=xs.length->I q s->AG body (emb q s)=fin ((xs.drop q).foldl f s)/\I xs.length ((xs.drop q).foldl f s):=by
  intro n
  induction n with
  |zero=>
   intro q s hq hI;have:q=xs.length:=by omega
   subst this;rw[Eh,he s hI];simp[hI]
  |succ n ih=>
   intro q s hq hI;have AL:q<xs.length:=by omega
   obtain⟨h1,h2⟩:=hs q AL s hI;rw[Eh,h1,Be AL,List.foldl_cons];exact ih (q+1) _ (by omega) h2
 have:=key xs.length 0 s (by omega) h0;simpa using this
theorem Mb{α:Type}{xs:List α}{p:α->Option Bool}(q:α->Bool)(hp:∀x∈xs,p x=some (q x))(hn:xs.length<=9223372036854775806):EJ xs p=some (xs.any q):=by
 have key:∀(l:List α) (i:Int),0<=i->(∀x∈l,p x=some (q x))-> ∃r,FY p l i=some r/\decide (r>=0)=l.any q:=by
  intro l
  induction l with
  |nil=>intro i _ _;exact⟨-1,rfl,by simp⟩
  |cons x l ih=>
   intro i hi h;simp only[FY,h x (by simp),Aa];cases hq:q x with
   |true=>exact⟨i,by simp,by simp[hq,hi]⟩
   |false=>obtain⟨r,h1,h2⟩:=ih (i+1) (by omega) λy hy=>h y (by simp[hy]);exact⟨r,by simp[h1],by simp[hq,h2]⟩
 obtain⟨r,h1,h2⟩:=key xs 0 (by omega) hp;simp[EJ,Jb,A8 hn,h1,h2]
theorem zw6{α:Type}{b:Nat}{xs:List α}(h:(xs.length:Int)*b<=140737488355328)(h2:(xs.length:Int)<=140737488355328):eH b xs=some xs:=A8 ⟨h,h2⟩
theorem NR{β:Type}{n:Nat}{body:Int->Option (Int ⊕ Option β)}(p:Nat->Bool)(b:β)(fin:Option β)
  (hs:∀i:Nat,i<n->body i=some (if p i=true then .inl ((i+1:Nat):Int)else .inr (some b))) (he:body n=some (.inr fin)):AG body 0=if(List.range n).all p=true then fin else some b:=by
 have h1:=Wn (xs:=List.range n) (body:=body) (λi (_:Unit)=>i) (λi _=>some (if p i=true then .inl ()else .inr (some b))) (λ_=>fin)
  (λi hi s=>by rw[List.length_range]at hi;rw[hs i hi,List.getElem_range];cases p i<;>simp[Om]) (λs=>by simpa using he) ()
 rw[eL p b λx _ s=>rfl]at h1;exact h1
def Ea{α:Type}(p:α->Bool)(l:List α):Int:=match l.findIdx? p with|some i=>(i:Int)|none=> -1
theorem dN{α:Type}(p:α->Bool):Ea p []= -1:=rfl
theorem dA{α:Type}(p:α->Bool)(x:α)(l:List α):Ea p (x::l)=if p x=true then 0 else if Ea p l= -1 then-1 else Ea p l+1:=by
 unfold Ea;rw[List.findIdx?_cons];cases p x with
 |true=>simp
 |false=>
  cases h:l.findIdx? p with
  |none=>simp
  |some i=>simp<;>omega
theorem WV{α:Type}(p:α->Bool)(l:List α): -1<=Ea p l:=by unfold Ea;split<;>omega
theorem qB{α:Type}(p:α->Bool)(l:List α):decide (Ea p l>=0)=l.any p:=by
 induction l with
 |nil=>simp[dN]
 |cons x l ih=>
  have h1:=WV p l;rw[dA,List.any_cons,<-ih];cases p x with
  |true=>simp
  |false=>
   by_cases h:Ea p l= -1
   ·simp[h]
   ·have:Ea p l>=0:=by omega
    simp[h,this];try omega
theorem zwp{α:Type}{p:α->Bool}{l:List α}(h:Ea p l>=0):∃x,getI l (Ea p l)=some x/\p x=true/\x∈l:=by
 induction l with
 |nil=>simp[dN]at h
 |cons y l ih=>
  rw[dA]at h ⊢;cases hy:p y with
  |true=>exact⟨y,by simp[getI],hy,by simp⟩
  |false=>
   have h1:=WV p l;by_cases hm:Ea p l= -1
   ·rw[hy,hm]at h;simp at h
   ·have h0:Ea p l>=0:=by omega
    obtain⟨x,e1,e2,e3⟩:=ih h0;obtain⟨_,e4,e5⟩:=fV e1;refine⟨x,?_,e2,by simp[e3]⟩;simp only[Bv,if_false,hm];unfold getI;rw[if_pos (by omega),show(Ea p l+1).toNat=(Ea p l).toNat+1 by omega];simpa using e5
theorem qM{α:Type}{xs:List α}{body:Int->Option (Int ⊕ Option Int)}(p:α->Bool)(hs:∀(i:Nat) (hi:i<xs.length),body i=some (if p xs[i]=true then .inr (some (i:Int))else .inl ((i+1:Nat):Int)))(he:body xs.length=some (.inr (some (-1)))):AG body 0=some (Ea p xs):=by
 have key:∀(n q:Nat),q+n=xs.length->AG body q=some (if Ea p (xs.drop q)= -1 then-1 else q+Ea p (xs.drop q)):=by
  intro n
  induction n with
  |zero=>
   intro q hq;have:q=xs.length:=by omega
   subst this;rw[Eh,he];simp[dN]
  |succ n ih=>
   intro q hq;have AL:q<xs.length:=by omega
   rw[Eh,hs q AL,Be AL,dA];cases p xs[q]with
   |true=>simp
   |false=>
    simp only[Bv,if_false];rw[ih (q+1) (by omega)];have h1:=WV p (xs.drop (q+1));congr 1;by_cases hm:Ea p (xs.drop (q+1))= -1
    ·simp[hm]
    ·have h2: ¬(Ea p (xs.drop (q+1))+1= -1):=by omega
     simp only[hm,if_false,h2];omega
 have h:=key xs.length 0 (by omega);rw[List.drop_zero]at h;rw[show((0:Nat):Int)=0 from rfl]at h;rw[h];have h1:=WV p xs;by_cases hm:Ea p xs= -1
 ·simp[hm]
 ·simp[hm]
abbrev bl(a b:List UInt8):Bool:=Op.bytesLess a b
theorem HF:∀a:List UInt8,bl a a=false
 | []=>rfl
 |x::a=>by
  have h: ¬x<x:=λh=>by have:=UInt8.lt_iff_toNat_lt.1 h;omega
  show Op.bytesLess (x::a) (x::a)=false;simp only[Op.bytesLess,h,decide_false,Bool.false_or,beq_self_eq_true,Bool.true_and];exact HF a
theorem WU(x y:UInt8)(a b:List UInt8):bl (x::a) (y::b)=true↔x.toNat<y.toNat\/x=y/\bl a b=true:=by show Op.bytesLess (x::a) (y::b)=true↔_;simp only[Op.bytesLess,Bool.or_eq_true,Aq,Ab,AJ,UInt8.lt_iff_toNat_lt]
theorem Fz:∀{a b c:List UInt8},bl a b=true->bl b c=true->bl a c=true
 | [],_,[],_,h=>by rename_i b _;cases b<;>cases h
 | [],_,_::_,_,_=>rfl
 |_::_,[],_,h,_=>by cases h
 |_::_,_::_,[],_,h=>by cases h
 |x::a,y::b,z::c,h1,h2=>by
  rw[WU]at*;rcases h1 with h1|⟨rfl,h1⟩<;>rcases h2 with h2|⟨rfl,h2⟩
  ·exact .inl (by omega)
  ·exact .inl h1
  ·exact .inl h2
  ·exact .inr ⟨rfl,Fz h1 h2⟩
theorem TD:∀a b:List UInt8,bl a b=true\/a=b\/bl b a=true
 | [],[]=> .inr (.inl rfl)
 | [],_::_=> .inl rfl
 |_::_,[]=> .inr (.inr rfl)
 |x::a,y::b=>by
  rw[WU,WU];rcases Nat.lt_trichotomy x.toNat y.toNat with h|h|h
  ·exact .inl (.inl h)
  ·have h0:x=y:=UInt8.toNat_inj.1 h;subst h0;rcases TD a b with h1|h1|h1
   ·exact .inl (.inr ⟨rfl,h1⟩)
   ·exact .inr (.inl (by rw[h1]))
   ·exact .inr (.inr (.inr ⟨rfl,h1⟩))
  ·exact .inr (.inr (.inl h))
theorem P2{a b:List UInt8}(h:bl a b=true):bl b a=false:=by
 cases h2:bl b a with
 |false=>rfl
 |true=>have:=Fz h h2;rw[HF]at this;cases this
theorem GL{a b:List UInt8}(h:bl a b=true):a≠b:=by rintro rfl;rw[HF]at h;cases h
theorem PQ{a b:List UInt8}(h:bl a b=false)(hn:a≠b):bl b a=true:=by
 rcases TD a b with h1|h1|h1
 ·rw[h]at h1;cases h1
 ·exact absurd h1 hn
 ·exact h1
section
variable {α:Type} (key:α->List UInt8)
def Da(l:List α):Prop:=l.Pairwise λa b=>bl (key a) (key b)=true
def Dv(x:α):List α->List α
 | []=> [x]
 |y::l=>if bl (key x) (key y)=true then x::y::l else if key x=key y then x::l else y::Dv x l
variable {key}
theorem Da.fw{l:List α}(h:Da key l){a b:α}(ha:a∈l)(hb:b∈l)(e:key a=key b):a=b:=by
 induction l with
 |nil=>cases ha
 |cons y l ih=>
  have h1:=List.pairwise_cons.1 h;rcases Ad.1 ha with q1|q1<;>rcases Ad.1 hb with q2|q2
  ·rw[q1,q2]
  ·exact absurd (q1▸e) (GL (h1.1 _ q2))
  ·exact absurd (q2▸e.symm) (GL (h1.1 _ q1))
  ·exact ih h1.2 q1 q2
theorem Je{x:α}:∀{l:List α},Da key l-> ∀y,y∈Dv key x l↔y=x\/y∈l/\key y≠key x
 | [],_,y=>by simp[Dv]
 |z::l,h,y=>by
  have h1:=List.pairwise_cons.1 h;unfold Dv;split
  ·rename_i hb;constructor
   ·intro hy;rcases Ad.1 hy with rfl|hy
    ·exact .inl rfl
    ·refine .inr ⟨hy,?_⟩;rcases Ad.1 hy with rfl|hy
     ·exact(GL hb).symm
     ·exact(GL (Fz hb (h1.1 _ hy))).symm
   ·rintro(rfl|⟨hy,_⟩)
    ·simp
    ·exact List.mem_cons_of_mem _ hy
  ·rename_i hb;split
   ·rename_i he;constructor
    ·intro hy;rcases Ad.1 hy with rfl|hy
     ·exact .inl rfl
     ·exact .inr ⟨List.mem_cons_of_mem _ hy,λe=>GL (h1.1 _ hy) (by rw[e,he])⟩
    ·rintro(rfl|⟨hy,hn⟩)
     ·simp
     ·rcases Ad.1 hy with rfl|hy
      ·exact absurd he.symm hn
      ·exact List.mem_cons_of_mem _ hy
   ·rename_i he;rw[Ad,Je h1.2];constructor
    ·rintro(rfl|rfl|⟨hy,hn⟩)
     ·exact .inr ⟨by simp,λe=>he e.symm⟩
     ·exact .inl rfl
     ·exact .inr ⟨List.mem_cons_of_mem _ hy,hn⟩
    ·rintro(rfl|⟨hy,hn⟩)
     ·exact .inr (.inl rfl)
     ·rcases Ad.1 hy with rfl|hy
      ·exact .inl rfl
      ·exact .inr (.inr ⟨hy,hn⟩)
theorem Jc{x:α}:∀{l:List α},Da key l->Da key (Dv key x l)
 | [],_=>by simp[Dv,Da]
 |z::l,h=>by
  have h1:=List.pairwise_cons.1 h;unfold Dv;split
  ·rename_i hb;refine List.pairwise_cons.2 ⟨λy hy=> ?_,h⟩;rcases Ad.1 hy with rfl|hy
   ·exact hb
   ·exact Fz hb (h1.1 _ hy)
  ·rename_i hb;split
   ·rename_i he;exact List.pairwise_cons.2 ⟨λy hy=>by rw[he];exact h1.1 _ hy,h1.2⟩
   ·rename_i he;refine List.pairwise_cons.2 ⟨λy hy=> ?_,Jc h1.2⟩;rcases(Je h1.2 y).1 hy with rfl|⟨hy,_⟩
    ·exact PQ (by simpa using hb) he
    ·exact h1.1 _ hy
theorem Da.ext:∀{a b:List α},Da key a->Da key b->(∀x,x∈a↔x∈b)->a=b
 | [],[],_,_,_=>rfl
 | [],y::b,_,_,h=>absurd ((h y).2 (by simp)) (by simp)
 |x::a,[],_,_,h=>absurd ((h x).1 (by simp)) (by simp)
 |x::a,y::b,ha,hb,h=>by
  have h1:=List.pairwise_cons.1 ha;have h2:=List.pairwise_cons.1 hb;have e:x=y:=by
   rcases Ad.1 ((h x).1 (by simp))with e|hx
   ·exact e
   ·rcases Ad.1 ((h y).2 (by simp))with e|hy
    ·exact e.symm
    ·have:=Fz (h1.1 _ hy) (h2.1 _ hx);rw[HF]at this;cases this
  subst e;rw[Da.ext h1.2 h2.2 λz=> ?_];constructor
  ·intro hz;rcases Ad.1 ((h z).1 (List.mem_cons_of_mem _ hz))with rfl|OI
   ·have:=h1.1 _ hz;rw[HF]at this;cases this
   ·exact OI
  ·intro hz;rcases Ad.1 ((h z).2 (List.mem_cons_of_mem _ hz))with rfl|OI
   ·have:=h2.1 _ hz;rw[HF]at this;cases this
   ·exact OI
theorem Da.filter{l:List α}(h:Da key l)(p:α->Bool):Da key (l.filter p):=List.Pairwise.filter p h
theorem Da.sub{a b:List α}(h:Da key b)(hs:a.Sublist b):Da key a:=List.Pairwise.sublist hs h
theorem PW{x:α}:∀(l:List α),(Dv key x l).length<=l.length+1
 | []=>by simp[Dv]
 |y::l=>by
  unfold Dv;have:=PW (x:=x) l;split
  ·simp
  ·split
   ·simp
   ·simp only[AR];omega
end
end Go.Proofs.YtndikjghnmhdmaaGreat
end
section
namespace Go.Proofs.YtndikjghnmhdmaaGreat
open Go.RowKit Go.Sort Go.Shelf
set_option maxRecDepth 100000
def Lh(x y:Ai):Int:=R4 (Lib.compareInt x.ab y.ab) (Lib.compareInt x.aq y.aq) (Ot ⟨x.ae.toArray⟩ ⟨y.ae.toArray⟩)
def Fx(a b:Ai):Bool:=if a.ab≠b.ab then decide (a.ab<b.ab)else if a.aq≠b.aq then decide (a.aq<b.aq)else bl a.ae b.ae
theorem oR(x y:Int):(Lib.compareInt x y≠0↔x≠y)/\(Lib.compareInt x y<0↔x<y):=by
 unfold Lib.compareInt;by_cases h1:x<y
 ·simp[h1];omega
 ·by_cases h2:y<x
  ·simp[h1,h2];omega
  ·simp[h1,h2];omega
theorem zyi(a b:List UInt8):(Ot ⟨a.toArray⟩ ⟨b.toArray⟩<0)↔bl a b=true:=by
 unfold Ot;rw[ByteArray.toList_eq,ByteArray.toList_eq];by_cases h1:bl a b=true
 ·rw[if_pos (by simpa using h1)];simp[h1]
 ·rw[if_neg (by simpa using h1)];split<;>simp[h1]
theorem Wv(x y:Ai):ltOf Lh x y=Fx x y:=by
 unfold ltOf Lh Fx R4;obtain⟨a1,a2⟩:=oR x.ab y.ab;obtain⟨b1,b2⟩:=oR x.aq y.aq;by_cases h1:x.ab=y.ab
 ·have e1: ¬Lib.compareInt x.ab y.ab≠0:=by rw[a1];simpa using h1
  rw[if_neg e1,if_neg (show¬x.ab≠y.ab by simpa using h1)];by_cases h2:x.aq=y.aq
  ·have e2: ¬Lib.compareInt x.aq y.aq≠0:=by rw[b1];simpa using h2
   rw[if_neg e2,if_neg (show¬x.aq≠y.aq by simpa using h2)];have:=zyi x.ae y.ae;cases hb:bl x.ae y.ae
   ·rw[decide_eq_false];rw[this,hb];simp
   ·rw[decide_eq_true];rw[this,hb]
  ·rw[if_pos (b1.2 h2),if_pos h2];simp only[b2]
 ·rw[if_pos (a1.2 h1),if_pos h1];simp only[a2]
theorem mV(x:Ai):Fx x x=false:=by simp[Fx,HF]
theorem cO{a b c:Ai}(h1:Fx a b=true)(h2:Fx b c=true):Fx a c=true:=by
 unfold Fx at*;by_cases t1:a.ab=b.ab<;>by_cases t2:b.ab=c.ab
 ·rw[if_neg (by simpa using t1)]at h1;rw[if_neg (by simpa using t2)]at h2;rw[if_neg (by simpa using t1.trans t2)];by_cases g1:a.aq=b.aq<;>by_cases g2:b.aq=c.aq
  ·rw[if_neg (by simpa using g1)]at h1;rw[if_neg (by simpa using g2)]at h2;rw[if_neg (by simpa using g1.trans g2)];exact Fz h1 h2
  ·rw[if_pos g2]at h2;rw[if_pos (by rw[g1];exact g2),g1];exact h2
  ·rw[if_pos g1]at h1;rw[if_pos (by rw[<-g2];exact g1),<-g2];exact h1
  ·rw[if_pos g1]at h1;rw[if_pos g2]at h2;simp only[Aq]at h1 h2;rw[if_pos (by omega)];simp;omega
 ·rw[if_pos t2]at h2;rw[if_pos (by rw[t1];exact t2),t1];exact h2
 ·rw[if_pos t1]at h1;rw[if_pos (by rw[<-t2];exact t1),<-t2];exact h1
 ·rw[if_pos t1]at h1;rw[if_pos t2]at h2;simp only[Aq]at h1 h2;rw[if_pos (by omega)];simp;omega
theorem WL(a b:Ai):Fx a b=true\/Fx b a=true\/(a.ab=b.ab/\a.aq=b.aq/\a.ae=b.ae):=by
 unfold Fx;by_cases t1:a.ab=b.ab
 ·rw[if_neg (show¬a.ab≠b.ab by simpa using t1),if_neg (show¬b.ab≠a.ab by simpa using t1.symm)];by_cases g1:a.aq=b.aq
  ·rw[if_neg (show¬a.aq≠b.aq by simpa using g1),if_neg (show¬b.aq≠a.aq by simpa using g1.symm)];rcases TD a.ae b.ae with h|h|h
   ·exact .inl h
   ·exact .inr (.inr ⟨t1,g1,h⟩)
   ·exact .inr (.inl h)
  ·rw[if_pos g1,if_pos (Ne.symm g1)];simp only[Aq];omega
 ·rw[if_pos t1,if_pos (Ne.symm t1)];simp only[Aq];omega
theorem pV{a b c:Ai}(h:a.ab=b.ab/\a.aq=b.aq/\a.ae=b.ae):Fx a c=Fx b c/\Fx c a=Fx c b:=by unfold Fx;rw[h.1,h.2.1,h.2.2];exact⟨rfl,rfl⟩
theorem jB:SWO (ltOf Lh)where
 irrefl x:=by rw[Wv];exact mV x
 trans x y z h1 h2:=by rw[Wv]at*;exact cO h1 h2
 ntrans x y z h1 h2:=by
  rw[Wv]at*;rcases WL x y with h|h|h
  ·rw[h]at h1;cases h1
  ·rcases WL y z with k|k|k
   ·rw[k]at h2;cases h2
   ·have wU:=cO k h;cases wO:Fx x z
    ·rfl
    ·have:=cO wU wO;rw[mV]at this;cases this
   ·rw[<-(pV (c:=x) k).2];exact h1
  ·rw[(pV (c:=z) h).1];exact h2
instance:Inhabited Ai:=⟨⟨0,0,[],[],false⟩⟩
def Ej(d:Array Ai):Array Ai:=pdq (ltOf Lh) d 0 d.size (Lib.bitLen d.size) true true
theorem nX(d:Array Ai):(Ej d).toList.Perm d.toList/\(Ej d).size=d.size/\SortedIn (ltOf Lh) 0 d.size (Ej d):=by
 obtain⟨⟨h1,_,h2⟩,h3⟩:=pdq_sorts (ltOf Lh) jB d 0 d.size (Lib.bitLen d.size) true true (Nat.zero_le _) (Av _) (Or.inl rfl);have e:(Ej d).extract 0 d.size=Ej d:=by have:d.size=(Ej d).size:=h1.symm;rw[this];simp
 refine⟨?_,h1,h3⟩;have Xs:((Ej d).extract 0 d.size).toList.Perm (d.extract 0 d.size).toList:=h2;rw[e]at Xs;simpa using Xs
theorem zvf(blk cap:Nat)(d:Array Ai)(w:World)(hH:HoldsK (DY JG) 5 w blk 0 d)(hblk:blk<w.heap.size)(BF:d.size<4611686018427387904):
  Calls Tryz.prog 18 #[.slice (some ⟨blk,0,none⟩) d.size cap, .func (.func 19) #[] #[]] w λe w'=>e= .returned (.tuple #[])/\ ∃n os,w'=sortWorldK (DY JG) 5 w blk 0 n (Ej d) os:=by
 have eg:∀args w,(callFunc 19 args).run Tryz.prog w= .ok (.enter 19 args) w:=enters_of Tryz.func19 (by kernel_rfl) rfl;have XY:CmpLays Tryz.prog 19 #[] (DY JG) 5 Lh blk 0 d.size w:=λm os dk hs x y=>zyQ x.ab x.aq ⟨x.ae.toArray⟩ ⟨x.a7.toArray⟩ x.au y.ab y.aq ⟨y.ae.toArray⟩ ⟨y.a7.toArray⟩ y.au _;exact AnyQ.slices_SortFunc_eq Tryz.eu 5 Tryz.isAgg34 Tryz.sizeOf34 (DY JG) (λ_=>rfl) (λx v hv=>by simp only[DY,JG,AV.cells,List.map_cons,List.map_nil,AV.val,Ad,List.not_mem_nil,or_false]at hv;rcases hv with rfl|rfl|rfl|rfl|rfl<;>rfl) Lh jB 19 #[] blk 0 cap d w eg XY hH hblk BF
theorem zth(p:Option Addr)(cap:Nat)(fv:Value)(w:World):Calls Tryz.prog 18 #[.slice p 0 cap,fv] w λe w'=>e= .returned (.tuple #[])/\w'=w:=
 AnyF.slices_SortFunc_none Tryz.eu p cap fv w
noncomputable def PC(g:Nat)(caps:List AV)(xs:List Ai):Option (Unit × List Ai):=req (g=19/\caps=[]/\xs.length<4611686018427387904) (some ((),(Ej xs.toArray).toList))
theorem zo2{g:Nat}{caps:List AV}{xs:List Ai}{r:Unit × List Ai}(h:PC g caps xs=some r):
  Cg Tryz.prog Cd 18 [.sl (xs.map JG), .fn g caps] (.tup [.tup [], .sl (r.2.map JG)]):=by
 obtain⟨hc,hr⟩:=GP h;obtain⟨rfl,rfl,hb⟩:=hc;cases hr;exact zwI (ft:=(match Tryz.prog.funcs[18]? with|some fn=>fn.params.toList.getD 1 0|none=>0)) (t:=28) (el:=34) (k:=5) Ej (by kernel_rfl) (λx y hy=>by simp only[JG,AV.cells,Ad,List.not_mem_nil,or_false]at hy;rcases hy with rfl|rfl|rfl|rfl|rfl<;>rfl) (λ_=>rfl) (λd=>(nX d).1) zvf zth xs hb
end Go.Proofs.YtndikjghnmhdmaaGreat
end
section
namespace Go.Proofs.YtndikjghnmhdmaaGreat
open Go.RowKit Go.Sort
set_option maxRecDepth 100000
theorem aT{w:World}:∀{cs:List Value} {xs:List (List UInt8)} {f:List Nat},Rd w cs (Ap (xs.map Di)) f-> ∃bs:List ByteArray,cs=bs.map Value.string/\bs.map (·.data.toList)=xs
 |cs,[],f,h=>by obtain⟨rfl,_⟩:=WO (by simpa[Ap]using h);exact⟨[],rfl,rfl⟩
 |cs,x::xs,f,h=>by
  have h':Rd w cs (.str x::Ap (xs.map Di)) f:=by simpa[Ap]using h
  obtain⟨b,us,rfl,rfl,_,h2⟩:=Xg h';obtain⟨bs,rfl,rfl⟩:=aT h2;exact⟨b::bs,rfl,rfl⟩
def tF(P:Program)(sg:BN)(f:Nat)(t el K:Nat):Bool:=
 match P.funcs[f]?,sg f with
 |some fn,some s=>(match s.bj,s.res,s.ft,s.lo with
  | [.va [true]],[true],[],[]=>true
  |_,_,_,_=>false)&&fn.body.isSome&& !(fn.name== "runtime.NumGoroutine")&&fn.params.toList==[t]&&fn.resultTypes.toList==[t]&&fn.nfree==0&& !Aj P t&&A2 P t==[t]&&Co P t==some el&&B4 P el&&P.cellsOf el==K&&FW P t [true]&&fn.params.size==1
 |_,_=>false
theorem lG{w:World}{b q:Nat}{d:Array (List UInt8)}{C:Array Value}{el:TypeId}(h:w.heap[b]?=some (.cells C el (0,0))):
  (putRow encStr (Sort.ahead w q) b 0 d).heap[b]?=some (.cells (Go.Sort.putCells encStr 0 d C) el (0,0)):=by
 show(w.heap.modify b (onCells (Go.Sort.putCells encStr 0 d)))[b]?=_;rw[Array.getElem?_modify,if_pos rfl,h];rfl
theorem nE{w:World}{b q:Nat}{d:Array (List UInt8)}:Mod [b] w (putRow encStr (Sort.ahead w q) b 0 d):=by
 refine⟨rfl,rfl,rfl,?_,λj hj hn=> ?_⟩
 ·show w.heap.size<=(w.heap.modify b (onCells (Go.Sort.putCells encStr 0 d))).size;simp
 ·show(w.heap.modify b (onCells (Go.Sort.putCells encStr 0 d)))[j]?=_;rw[Array.getElem?_modify,if_neg (by simpa[eq_comm]using hn)]
theorem lJ(C:Array Value)(r:List (List UInt8))(z:List (List UInt8))(h:r.length+z.length<=C.size):(Go.Sort.putCells encStr 0 (r++z).toArray C).toList.take r.length=r.map encStr:=by
 apply List.ext_getElem?;intro j;by_cases hj:j<r.length
 ·have hc:j<C.size:=by omega
  rw[List.getElem?_take,if_pos hj,List.getElem?_map,BH hj,Option.map_some,Array.getElem?_toList];have:j<(Go.Sort.putCells encStr 0 (r++z).toArray C).size:=by simp[Go.Sort.putCells];exact hc
  rw[Array.getElem?_eq_getElem this];simp only[Go.Sort.putCells,Array.getElem_mapIdx,Nat.zero_le,true_and,Nat.zero_add,Nat.sub_zero];rw[if_pos (by simp;omega)];have h2:j<(r++z).toArray.size:=by simp;omega
  rw[getElem!_pos _ j h2];simp[hj]
 ·rw[List.getElem?_take,if_neg hj,List.getElem?_eq_none (by simpa using hj)]
theorem sR(b:ByteArray):encStr b.data.toList= .string b:=by show Value.string ⟨b.data.toList.toArray⟩= .string b;cases b;simp
theorem eQ{w:World}:∀(r:List (List UInt8)),(∀s∈r,s.length<=9223372036854775807)->Rd w (r.map encStr) (Ap (r.map Di)) []
 | [],_=>by simpa[Ap]using Rd.nil
 |s::r,h=>by
  have e:Ap ((s::r).map Di)= .str s::Ap (r.map Di):=by simp[Ap,Di,AV.cells]
  rw[e,List.map_cons];have:=Rd.str (w:=w) (s:=⟨s.toArray⟩) (by show s.toArray.size<=_;simpa using h s (by simp)) (eQ r λx hx=>h x (by simp[hx]));simpa using this
theorem bW{w:World}:∀{cs:List Value} {xs:List (List UInt8)} {f:List Nat},Rd w cs (Ap (xs.map Di)) f-> ∀s∈xs,s.length<=9223372036854775807
 |cs,[],f,_=>by simp
 |cs,x::xs,f,h=>by
  have e:Ap ((x::xs).map Di)= .str x::Ap (xs.map Di):=by simp[Ap,Di,AV.cells]
  rw[e]at h;cases h with
  |str a h=>
   intro s hs;rcases Ad.1 hs with rfl|hs
   ·simpa using a
   ·exact bW h s hs
theorem lQ(zs:List (List UInt8)):∀s∈Lib.compact zs,s∈zs:=by
 intro s hs;unfold Lib.compact Lib.compactUpTo at hs;obtain⟨j,hj,rfl⟩:=List.mem_map.1 hs;have AL:j<zs.length:=by simpa using(List.mem_filter.1 hj).1
 rw[getElem!_pos _ j (by simpa using AL)];simp
theorem zsd{f t el:Nat}(hk:tF Tryz.prog Cd f t el 1=true)(C6:∀r,TQ Tryz.prog Cd f r=true)
  (hC:∀(blk cap:Nat) (zs:List (List UInt8)) (w:World),Holds encStr w blk 0 zs.toArray->zs.length<=9223372036854775807->zs.length<=cap->
   Calls Tryz.prog f #[.slice (some ⟨blk,0,none⟩) zs.length cap] w λe w'=>e= .returned (.slice (some ⟨blk,0,none⟩) (Lib.compact zs).length cap)/\ ∃q,w'=putRow encStr (Sort.ahead w q) blk 0 (Lib.compact zs++List.replicate (zs.length-(Lib.compact zs).length) []).toArray)
  (h0:∀a cap w,Calls Tryz.prog f #[.slice a 0 cap] w λe w'=>e= .returned (.slice a 0 cap)/\w'=w)
  (xs:List (List UInt8)):Cg Tryz.prog Cd f [.sl (xs.map Di)] (.sl ((Lib.compact xs).map Di)):=by
 unfold tF at hk;split at hk
 ·rename_i fn s hf hs;simp only[Ab,Br,AJ]at hk;obtain⟨⟨⟨⟨⟨⟨⟨⟨⟨⟨⟨⟨g1,g2⟩,g3⟩,g4⟩,g5⟩,g6⟩,g7⟩,g8⟩,g9⟩,g10⟩,g11⟩,g12⟩,g13⟩:=hk;obtain⟨hm,hr,Cr,BQ⟩:s.bj=[.va [true]]/\s.res=[true]/\s.ft=[]/\s.lo=[]:=by
   split at g1
   ·rename_i a b c d;exact⟨a,b,c,d⟩
   ·cases g1
  have Ar:=Lib.compact_length_le xs;unfold Cg;rw[if_pos (K2 f s hs)];refine⟨s,hs,fn,hf,g2,g3,by have:=C6 ((Lib.compact xs).map Di);unfold TQ at this;rw[hf,hs]at this;exact this,by simp[g6,g13],by simp[Cr],λw vs rf lf Ba Ah hd _ BZ DR=> ?_⟩;rw[g4,Cr,AB,hm,BQ]at Ah;cases Ah with
  |lent h _ _ _=>cases h
  | @cons _ _ _ _ v1 vs1 _ _ f1 k1 rf1 lf1 BE a1 Ah=>
   cases Ah;obtain⟨rfl,r1⟩:=S1 g7 g8 g9 g10 a1;obtain⟨xs',cs,e1,p0,p1,p2,p3,p4,p5⟩:=r1.iw;cases e1;rw[g11]at p0 p1 p2 p5;have fin:∀{w':World} {v':Value} {top:List Nat},Mod k1 w w'->CA w' el 1 v' (.sl ((Lib.compact xs).map Di)) top []->top.Nodup->(∀b∈top,b∈k1/\b<w'.heap.size)->Zf Tryz.prog fn s w [v1] ([]++ []) (k1++ []) (.sl ((Lib.compact xs).map Di)) v' w':=by
    intro w' v' top BO Bd D2 B0;refine⟨⟨_,[],[],top,[],[],rfl,?_,?_,by simpa using D2,?_,by simp⟩,BO.weaken λb hb=> .inl (by simp[hb])⟩
    ·rw[g5];show Eb Tryz.prog w' t s.res _ _ [] top;unfold Eb;rw[hr,if_pos g12];refine⟨[v'],[.sl ((Lib.compact xs).map Di)],by rw[g7];simp,?_⟩;rw[g8];have:=Cj.own (P:=Tryz.prog) (t:=t) (ts:=[]) (fl:=[true]) (us:=[]) (ys:=[]) (rf:=[]) (hs:=[]) rfl g9 (.inl ⟨g10,rfl⟩) (by rw[g11];exact Bd) .nil;simpa using this
    ·rw[g4,Cr,AB,hm];exact .va rfl .nil
    ·intro b hb;simp only[AB]at hb;exact⟨.inl (by simpa using(B0 b hb).1),(B0 b hb).2⟩
   rcases p5 with⟨Dp,rfl,q,rfl⟩|⟨g,cap,C,rfl,⟨z1,z2,z3,z4,z5⟩,rfl⟩
   ·have B3:xs=[]:=by simpa using Dp
    subst B3;refine(h0 q 0 w).mono ?_;rintro e w' ⟨rfl,rfl⟩;have:Lib.compact ([]:List (List UInt8))=[]:=rfl;exact⟨_,rfl,fin (Mod.refl _ _) ⟨[],by rw[this];rfl,by simp,by omega, .inl ⟨rfl,⟨q,rfl⟩,rfl,rfl⟩⟩ (by simp) (by simp)⟩
   ·rw[List.length_map]at z1 z5;obtain⟨bs,b1,b2⟩:=aT p3;have Ln:=De z3;have Bh:∀o,w.cell? ⟨g,o,none⟩=C[o]?:=P1 z3;have Bi:cs=xs.map encStr:=by
     rw[b1,<-b2,List.map_map];exact List.map_congr_left λb _=>(sR b).symm
    have hH:Holds encStr w g 0 xs.toArray:=by
     intro j hj;have H5:j<xs.length:=by simpa using hj
     refine⟨?_,VV z3⟩;rw[Bh,Nat.zero_add];have e1:C[j]?=cs[j]?:=by rw[z5,List.getElem?_take,if_pos (by omega)];simp
     rw[e1,Bi,List.getElem?_map,BH H5,getElem!_pos _ j hj];simp
    have hc:=hC g cap xs w hH (by unfold maxLen at z2;omega) z1;rw[List.length_map]at fin ⊢;refine hc.mono ?_;rintro e w' ⟨rfl,q,rfl⟩;have CM:=lG (q:=q) (d:=(Lib.compact xs++List.replicate (xs.length-(Lib.compact xs).length) []).toArray) z3;refine⟨_,rfl,fin (top:=[g]) nE ?_ (by simp) (λb hb=>by rw[List.mem_singleton]at hb;subst hb;exact⟨by simp,De CM⟩)⟩;have Bo:=lJ C (Lib.compact xs) (List.replicate (xs.length-(Lib.compact xs).length) []) (by rw[List.length_replicate,z4];omega);refine⟨_,rfl,λy hy=> ?_,by omega, .inr ⟨g,cap,_,by simp,by rw[List.length_map];omega,z2,CM,by simp[Go.Sort.putCells,z4],rfl,?_,?_⟩⟩
    ·obtain⟨x,_,rfl⟩:=List.mem_map.1 hy;rfl
    ·rw[List.length_map,Nat.mul_one,Bo];intro u hu;obtain⟨x,_,rfl⟩:=List.mem_map.1 hu;rfl
    ·rw[List.length_map,Nat.mul_one,Bo];exact eQ _ λs hs=>bW p3 s (lQ xs s hs)
 ·cases hk
noncomputable def UJ(xs:List (List UInt8)):Option (List (List UInt8)):=some (Lib.compact xs)
theorem yK(a0 r:List (List UInt8))(h:UJ a0=some r):Cg Tryz.prog Cd 146 [.sl (a0.map Di)] (.sl (r.map Di)):=by cases h;exact zsd (t:=50) (el:=9) (by kernel_rfl) (λ_=>by kernel_rfl) (λblk cap zs w hH h1 h2=>Tryz.slices_Compact_string blk 0 cap zs w hH h1 h2) (λa cap w=>Tryz.slices_Compact_string_empty a cap w) a0
def s5(P:Program)(sg:BN)(f:Nat)(t el K:Nat):Bool:=
 match P.funcs[f]?,sg f with
 |some fn,some s=>(match s.bj,s.res,s.ft,s.lo with
  | [.mu [true]],[],[],[]=>true
  |_,_,_,_=>false)&&fn.body.isSome&& !(fn.name== "runtime.NumGoroutine")&&fn.params.toList==[t]&&fn.resultTypes.toList==[]&&fn.nfree==0&& !Aj P t&&A2 P t==[t]&&Co P t==some el&&B4 P el&&P.cellsOf el==K&&fn.params.size==1
 |_,_=>false
theorem zuB{w:World}{b q:Nat}{d:Array (List UInt8)}{C:Array Value}{el:TypeId}{os:Array Obj}(h:w.heap[b]?=some (.cells C el (0,0))):
  (grow (putRow encStr (Sort.ahead w q) b 0 d) os).heap[b]?=some (.cells (Go.Sort.putCells encStr 0 d C) el (0,0)):=by
 have h1:=lG (q:=q) (d:=d) h;show((putRow encStr (Sort.ahead w q) b 0 d).heap++os)[b]?=_;rw[Array.getElem?_append_left (De h1),h1]
theorem zxc{w:World}{b q:Nat}{d:Array (List UInt8)}{os:Array Obj}:Mod [b] w (grow (putRow encStr (Sort.ahead w q) b 0 d) os):=by
 have h:=nE (w:=w) (b:=b) (q:=q) (d:=d);have hs:=h.size;refine⟨h.os,h.tape,h.output,?_,λj hj hn=> ?_⟩
 ·show w.heap.size<=((putRow encStr (Sort.ahead w q) b 0 d).heap++os).size;simp only[Array.size_append];omega
 ·show((putRow encStr (Sort.ahead w q) b 0 d).heap++os)[j]?=_;rw[Array.getElem?_append_left (by omega)];exact h.block j hj hn
def Gi(xs:List (List UInt8)):List (List UInt8):=xs.mergeSort λx y=>decide (x<=y)
theorem nH(xs:List (List UInt8)):(Gi xs).Perm xs:=List.mergeSort_perm _ _
theorem zuh{f t el:Nat}(hk:s5 Tryz.prog Cd f t el 1=true)
  (hC:∀(blk cap:Nat) (zs:List (List UInt8)) (w:World),Holds encStr w blk 0 zs.toArray->blk<w.heap.size->zs.length<4611686018427387904->
   Calls Tryz.prog f #[.slice (some ⟨blk,0,none⟩) zs.length cap] w λe w'=>e= .returned (.tuple #[])/\ ∃n os,w'=grow (putRow encStr (Sort.ahead w n) blk 0 (zs.mergeSort λx y=>decide (x<=y)).toArray) os)
  (h0:∀a cap w,Calls Tryz.prog f #[.slice a 0 cap] w λe w'=>e= .returned (.tuple #[])/\w'=w)
  (xs:List (List UInt8)) (hb:xs.length<4611686018427387904):Cg Tryz.prog Cd f [.sl (xs.map Di)] (.tup [.tup [], .sl ((Gi xs).map Di)]):=by
 unfold s5 at hk;split at hk
 ·rename_i fn s hf hs;simp only[Ab,Br,AJ]at hk;obtain⟨⟨⟨⟨⟨⟨⟨⟨⟨⟨⟨g1,g2⟩,g3⟩,g4⟩,g5⟩,g6⟩,g7⟩,g8⟩,g9⟩,g10⟩,g11⟩,g13⟩:=hk;obtain⟨hm,hr,Cr,BQ⟩:s.bj=[.mu [true]]/\s.res=[]/\s.ft=[]/\s.lo=[]:=by
   split at g1
   ·rename_i a b c d;exact⟨a,b,c,d⟩
   ·cases g1
  have hp:=nH xs;have Ev:=hp.length_eq;unfold Cg;rw[if_pos (K2 f s hs)];refine⟨s,hs,fn,hf,g2,g3,?_,by simp[g6,g13],by simp[Cr],λw vs rf lf Ba Ah hd _ BZ DR=> ?_⟩
  ·unfold JN Qp;rw[g4,g5,Cr,AB,hm];simp[Bl,Qk,GK]
  rw[g4,Cr,AB,hm,BQ]at Ah;cases Ah with
  |lent h _ _ _=>cases h
  | @cons _ _ _ _ v1 vs1 _ _ f1 k1 rf1 lf1 BE a1 Ah=>
   cases Ah;obtain⟨rfl,r1⟩:=S1 g7 g8 g9 g10 a1;obtain⟨xs',cs,e1,p0,p1,p2,p3,p4,p5⟩:=r1.iw;cases e1;rw[g11]at p0 p1 p2 p5;have Gz:(xs.map Di).length=xs.length:=by simp
   rcases p5 with⟨Dp,rfl,q,rfl⟩|⟨g,cap,C,rfl,⟨z1,z2,z3,z4,z5⟩,rfl⟩
   ·have B3:xs=[]:=by simpa using Dp
    subst B3;have XI:Gi []=[]:=by simpa using Ev
    refine(h0 q 0 w).mono ?_;rintro e w' ⟨rfl,rfl⟩;refine⟨_,rfl,⟨⟨.tup [],[.sl []],[],[],[],[],by simp[XI],?_,?_,by simp,by simp,by simp⟩,Mod.refl _ _⟩⟩
    ·rw[g5];exact⟨[],[],rfl,rfl, .nil⟩
    ·rw[g4,Cr,AB,hm];have EU:Ec Tryz.prog w' (A2 Tryz.prog t) [true] [.slice q 0 0] [.sl []] [] []:=by
      rw[g8];have:=Ec.own (P:=Tryz.prog) (w:=w') (t:=t) (ts:=[]) (fl:=[true]) (us:=[]) (ys:=[]) rfl g9 (.inl ⟨g10,rfl⟩) (y:= .sl []) (u:= .slice q 0 0) (top:=[]) (by rw[g11];exact⟨[],rfl,by simp,p0, .inl ⟨rfl,⟨q,rfl⟩,rfl,rfl⟩⟩) .nil;simpa using this
     have:=Dg.mu (P:=Tryz.prog) (w:=w') (t:=t) (ts:=[]) (ms:=[.mu [true]]) (own:=[true]) (v:= .slice q 0 0) (vs:=[]) (us:=[.slice q 0 0]) (ys:=[.sl []]) (y:= .sl []) (bs:=[]) (f:=[]) (o1:=[]) (o:=[]) rfl (by rw[g7];simp) EU .nil;simpa using this
   ·rw[List.length_map]at z1 z5;obtain⟨bs,b1,b2⟩:=aT p3;have Bh:∀o,w.cell? ⟨g,o,none⟩=C[o]?:=P1 z3;have Bi:cs=xs.map encStr:=by
     rw[b1,<-b2,List.map_map];exact List.map_congr_left λb _=>(sR b).symm
    have hH:Holds encStr w g 0 xs.toArray:=by
     intro j hj;have H5:j<xs.length:=by simpa using hj
     refine⟨?_,VV z3⟩;rw[Bh,Nat.zero_add];have e1:C[j]?=cs[j]?:=by rw[z5,List.getElem?_take,if_pos (by omega)];simp
     rw[e1,Bi,List.getElem?_map,BH H5,getElem!_pos _ j hj];simp
    have hc:=hC g cap xs w hH (De z3) hb;rw[List.length_map];refine hc.mono ?_;rintro e w' ⟨rfl,n,os,rfl⟩;have CM:=zuB (q:=n) (os:=os) (d:=(Gi xs).toArray) z3;have BO:=zxc (w:=w) (b:=g) (q:=n) (os:=os) (d:=(Gi xs).toArray);have Bo:=lJ C (Gi xs) [] (by rw[Ev,z4];simpa using z1);rw[AB,Ev]at Bo;change Mod [g] w (grow (putRow encStr (Sort.ahead w n) g 0 (xs.mergeSort λx y=>decide (x<=y)).toArray) os)at BO;change (grow (putRow encStr (Sort.ahead w n) g 0 (xs.mergeSort λx y=>decide (x<=y)).toArray) os).heap[g]?=_ at CM;generalize grow (putRow encStr (Sort.ahead w n) g 0 (xs.mergeSort λx y=>decide (x<=y)).toArray) os=w' at BO CM;have Bd:CA w' el 1 (.slice (some ⟨g,0,none⟩) xs.length cap) (.sl ((Gi xs).map Di)) [g] []:=by
     refine⟨_,rfl,λy hy=> ?_,by omega, .inr ⟨g,cap,_,by simp[Ev],by rw[List.length_map,Ev];omega,z2,CM,by simp[Go.Sort.putCells,z4],rfl,?_,?_⟩⟩
     ·obtain⟨x,_,rfl⟩:=List.mem_map.1 hy;rfl
     ·rw[List.length_map,Ev,Nat.mul_one,Bo];intro u hu;obtain⟨x,_,rfl⟩:=List.mem_map.1 hu;rfl
     ·rw[List.length_map,Ev,Nat.mul_one,Bo];exact eQ _ λs hs=>bW p3 s (hp.mem_iff.1 hs)
    refine⟨_,rfl,⟨⟨.tup [],[.sl ((Gi xs).map Di)],[],[],[],[g],by simp,?_,?_,by simp,?_,by simp⟩,BO.weaken λb hb=> .inl (by simpa using hb)⟩⟩
    ·rw[g5];exact⟨[],[],rfl,rfl, .nil⟩
    ·rw[g4,Cr,AB,hm];have EU:Ec Tryz.prog w' (A2 Tryz.prog t) [true] [.slice (some ⟨g,0,none⟩) xs.length cap] [.sl ((Gi xs).map Di)] [] [g]:=by
      rw[g8];have:=Ec.own (P:=Tryz.prog) (w:=w') (t:=t) (ts:=[]) (fl:=[true]) (us:=[]) (ys:=[]) rfl g9 (.inl ⟨g10,rfl⟩) (y:= .sl ((Gi xs).map Di)) (u:= .slice (some ⟨g,0,none⟩) xs.length cap) (top:=[g]) (by rw[g11];exact Bd) .nil;simpa using this
     have:=Dg.mu (P:=Tryz.prog) (w:=w') (t:=t) (ts:=[]) (ms:=[.mu [true]]) (own:=[true]) (v:= .slice (some ⟨g,0,none⟩) xs.length cap) (vs:=[]) (us:=[.slice (some ⟨g,0,none⟩) xs.length cap]) (ys:=[.sl ((Gi xs).map Di)]) (y:= .sl ((Gi xs).map Di)) (bs:=[]) (f:=[]) (o1:=[g]) (o:=[]) rfl (by rw[g7];simp) EU .nil;simpa using this
    ·intro b hb;simp only[List.nil_append,List.mem_singleton]at hb;subst hb;exact⟨.inl (by simp),De CM⟩
 ·cases hk
noncomputable def UG(xs:List (List UInt8)):Option (Unit × List (List UInt8)):=req (xs.length<4611686018427387904) (some ((),Gi xs))
theorem yN(a0:List (List UInt8))(r:Unit × List (List UInt8))(h:UG a0=some r):Cg Tryz.prog Cd 145 [.sl (a0.map Di)] (.tup [.tup [], .sl (r.2.map Di)]):=by obtain⟨hb,h⟩:=GP h;cases h;exact zuh (t:=50) (el:=9) (by kernel_rfl) (λblk cap zs w hH h1 h2=>Tryz.slices_Sort_string blk 0 cap zs w hH h1 h2) (λa cap w=>Tryz.slices_Sort_string_none a cap w) a0 hb
end Go.Proofs.YtndikjghnmhdmaaGreat
end

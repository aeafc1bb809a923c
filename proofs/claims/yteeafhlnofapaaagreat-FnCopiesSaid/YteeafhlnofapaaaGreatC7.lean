/- Parts of a proof, joined: DA, DB, MA, MB, OB, OG, QA, QO, MC, MD, QT, TF, HB, SP, HL, IA, IC, ID, IE, IF, IG, IB, SB, SW, SQ, NA, PK, SI, CA, CC, CB. -/
import Derived.Test.YteeafhlnofapaaaGreatC6
import Derived.Test.YteeafhlnofapaaaGreatProg
import Derived.Test.YteeafhlnofapaaaGreatChecked
import Derived.Shelf.Small.Bits
import Derived.Shelf.Small.Strs
import Derived.Shelf.Small.Wraps
import Derived.Shelf.Strconv.Itoa0
import Derived.Shelf.Strings.Search1
import Derived.Ground.Names2Prog
import Derived.Shelf.Slices.SearchI
import Derived.Laws.CopyRow
import Derived.Lib.AppendZerosOnto
import Derived.Lib.Overlaps
import Derived.Lib.SliceRun
import Derived.Lib.SlicesDelete
import Derived.Shelf.RegionOpenPlain
import Derived.Deep.RegionLaw
import Derived.Shelf.GgSortFunc.InsertionK
import Derived.StillTailTactics
import Derived.Deep.QuietTactic
import Derived.Sort.Grow
import Derived.Shelf.SlGeneric
import Derived.Shelf.SlLaysF0
import Derived.Ground.SlsfProg
import Derived.Shelf.SlSortCmp.NoneTotal
import Derived.RangeFuncNested
import Derived.RangeFuncBound
import Derived.RangeFuncCalls
import Derived.RangeFuncLeaves
import Derived.Shelf.Abstract
import Derived.Shelf.RegionOpen
import Derived.WalkKit
import Derived.OwnWalkIn
import Derived.TacticsInMore
import Derived.LoopNIn
import Derived.LoopIn
set_option linter.unusedVariables false
set_option linter.unusedSimpArgs false
section
namespace Go.Proofs.YteeafhlnofapaaaGreat
open Go.RowKit
noncomputable def Y0(t:TypeId):List Bool:=(AW Tryz.prog t).map λu=>match Cj Tryz.prog u with|some e=>BW Tryz.prog e|none=>false
noncomputable def iE(u:TypeId):List Bool:=if u=45 then []else Y0 u
noncomputable def zvM(fn:Func):Gc:={bh:=fn.params.toList.map λt=>match I5 Tryz.prog t with|some u=> .bx (iE u) (iE u)|none=> .ro,res:=fn.resultTypes.toList.flatMap Y0}
noncomputable def yT(f:Nat):Option Gc:=
 match f with
 |5=>some {bh:=[],res:=[]}
 |9=>some {bh:=[.ro, .ro, .ro],res:=[]}
 |15=>some {bh:=[.bx [] []],res:=[true],dp:=true}
 |17=>some {bh:=[.bx [] []],res:=[true],dp:=true}
 |22=>some {bh:=[.va [false,false,true]],res:=[false,false,true,false]}
 |26=>some {bh:=[.ro],res:=[]}
 |27=>some {bh:=[.ro, .ro, .ro, .ro],res:=[]}
 |31=>some {bh:=[.va [true], .ro],res:=[true]}
 |32=>some {bh:=[.va [true], .ro],res:=[true],wn:=true}
 |39=>some {bh:=[.ro, .ro, .ro],res:=[true,false],dp:=true,wn:=true}
 |45=>some {bh:=[.mu [true], .ro],res:=[]}
 |51=>some {bh:=[.ro, .ro],res:=[]}
 |53=>some {bh:=[.va [true], .ro, .va [true]],res:=[true]}
 |63=>some {bh:=[.ro],res:=[true],dp:=true}
 |70=>some {bh:=[.mu [true], .ro, .ro, .ro, .ro],res:=[]}
 |94=>some {bh:=[.mu [true], .ro, .ro, .ro],res:=[]}
 |95=>some {bh:=[.mu [true], .ro, .ro, .ro],res:=[]}
 |96=>some {bh:=[.mu [true], .ro, .ro, .ro],res:=[]}
 |97=>some {bh:=[.mu [true], .ro, .ro, .ro],res:=[]}
 |98=>some {bh:=[.mu [true], .ro, .ro, .ro],res:=[]}
 |99=>some {bh:=[.mu [true], .ro, .ro, .ro],res:=[]}
 |100=>some {bh:=[.mu [true], .ro, .ro, .ro, .ro],res:=[]}
 |101=>some {bh:=[.mu [true], .ro, .ro, .ro, .ro],res:=[]}
 |113=>some {bh:=[.mu [true], .ro, .ro, .ro, .ro],res:=[]}
 |116=>some {bh:=[.mu [true], .ro, .bx [false] [false], .ro],res:=[]}
 |117=>some {bh:=[.mu [true], .ro, .ro, .ro, .bx [false] [false], .ro],res:=[]}
 |118=>some {bh:=[.mu [true]],res:=[]}
 |120=>some {bh:=[.mu [true], .ro, .ro, .bx [false] [false], .ro],res:=[]}
 |140=>some {bh:=[.ro],res:=[]}
 |_=>none
noncomputable def iL(f:Nat):Option Gc:=match Tryz.prog.funcs[f]? with
 |some fn=>some ((yT f).getD (zvM fn))
 |none=>none
noncomputable def Cp:BE:={f:=iL}
theorem zvm:Tryz.prog.follows .mixedOrders=true:=by kernel_rfl
theorem zwg:Tryz.prog.funcs.size<1000000:=by
 have:(decide (Tryz.prog.funcs.size<1000000))=true:=by kernel_rfl
 exact of_decide_eq_true this
theorem My(f:Nat)(s:Gc)(h:Cp f=some s):f<1000000:=by
 simp only[Cp]at h;unfold iL at h;split at h
 ·rename_i fn hf;have:=(Array.getElem?_eq_some_iff.1 hf).1;exact Nat.lt_trans this zwg
 ·cases h
def Uj(P:Program)(sg:BE)(f:Nat)(xs:List AV)(r:AV):Bool:=
 match P.funcs[f]?,sg f with
 |some fn,some s=> !(fn.name== "runtime.NumGoroutine")&&JI P fn s r&&xs.length==fn.params.size+fn.nfree
 |_,_=>false
abbrev Den(t:Tr)(r:AV)(xs:List AV):Prop:=t.den (Cr Tryz.prog Cp) (λr'=>r'=r) (λ_ _ _ _=>False) [] xs
theorem MA{f:Nat}{t:Tr}{xs:List AV}{r:AV}(hc:Ri Tryz.prog Cp f=some t)(hk:Uj Tryz.prog Cp f xs r=true)(hd:Den t r xs):Cr Tryz.prog Cp f xs r:=by
 unfold Uj at hk;split at hk
 ·rename_i fn s hf hs;simp only[Ad,Bh,AB]at hk;unfold Cr;rw[if_pos (My f s hs)];exact⟨s,hs,w8 zvm My hf hs hk.1.1 hc hk.1.2 hk.2 hd⟩
 ·cases hk
section
variable {Rt:Nat->List AV->AV->Prop} {R:AV->Prop} {L:LK} {js:List JK} {ρ:List AV}
theorem eZ{i:EL}{b k:Tr}(hL:It L)(I:Nat->List AV->Prop){m:Nat}(h0:I m (i.den ρ))(Fu:∀m vs,I m vs->b.den Rt R L ((λus=> ∃m',m'<m/\I m' us)::(λus=>k.den Rt R L js (ρ++us))::js) (ρ++vs)):(Tr.loop i b k).den Rt R L js ρ:=by
 have hb:∀W W':JK,(∀vs,W vs->W' vs)-> ∀vs,b.den Rt R L (W::(λus=>k.den Rt R L js (ρ++us))::js) (ρ++vs)->b.den Rt R L (W'::(λus=>k.den Rt R L js (ρ++us))::js) (ρ++vs):=
  λW W' hW vs hv=>b.ec hL hv (.cons hW (DD.refl _))
 have mono:∀n vs,Hw (λW vs=>b.den Rt R L (W::(λus=>k.den Rt R L js (ρ++us))::js) (ρ++vs)) n vs-> ∀n',n<=n'->Hw (λW vs=>b.den Rt R L (W::(λus=>k.den Rt R L js (ρ++us))::js) (ρ++vs)) n' vs:=by
  intro n
  induction n with
  |zero=>intro vs h;exact h.elim
  |succ n ih=>
   intro vs h n' hn;cases n' with
   |zero=>omega
   |succ n'=>exact hb _ _ (λus hu=>ih us hu n' (by omega)) vs h
 have key:∀m vs,I m vs->Hw (λW vs=>b.den Rt R L (W::(λus=>k.den Rt R L js (ρ++us))::js) (ρ++vs)) (m+1) vs:=by
  intro m
  induction m using Nat.strongRecOn with
  |_ m ih=>intro vs hI;exact hb _ _ (λus ⟨m',hm,hu⟩=>mono _ _ (ih m' hm us hu) m (by omega)) vs (Fu m vs hI)
 exact⟨m+1,key m _ h0⟩
theorem aR:It (λ_ _ _ _=>False):=λ_ _ _ _ _ _ h=>h
end
@[simp] theorem zv6(ρ:List AV):A4 ρ []↔True:=⟨λ_=>trivial,λ_=>Ed ρ⟩
@[simp] theorem zvT(ρ:List AV)(x:E)(b:Bool)(gs:Gd):A4 ρ ((x,b)::gs)↔x.den ρ= .bool b/\A4 ρ gs:=
 ⟨λh=>⟨h (x,b) (by simp),λg hg=>h g (by simp[hg])⟩,λh g hg=>by rcases Ac.1 hg with rfl|hg;exact h.1;exact h.2 g hg⟩
attribute [simp] E.den EL.den Cn.den AV.fld AV.proj AV.deref AV.len AV.slen AV.idx AV.nth AV.dq AV.gb AV.conv AV.bin AV.bbin AV.sbin AV.app AV.ch AV.rep
@[simp] theorem zuE(cs:List AV):(AV.agg cs).cells=cs:=rfl
@[simp] theorem zve(k:IntKind)(n:Int):(AV.int k n).cells=[.int k n]:=rfl
@[simp] theorem zux(b:Bool):(AV.bool b).cells=[.bool b]:=rfl
@[simp] theorem zuG(s:List UInt8):(AV.str s).cells=[.str s]:=rfl
@[simp] theorem zvq(xs:List AV):(AV.sl xs).cells=[.sl xs]:=rfl
@[simp] theorem zuz(k:IntKind)(n:Int):(AV.int k n).scalar=true:=rfl
@[simp] theorem zue(b:Bool):(AV.bool b).scalar=true:=rfl
@[simp] theorem zuw(s:List UInt8):(AV.str s).scalar=true:=rfl
@[simp] theorem zvE(b c d:Bool):AV.cond (.bool b) (.bool c) (.bool d)= .bool (bif b then c else d):=by cases b<;>rfl
theorem qY{y:AV}(h:y.scalar=true):y.cells=[y]:=by cases y<;>first|rfl|simp[AV.scalar]at h
theorem Ek{n:Int}(h1: -9223372036854775808<=n)(h2:n<=9223372036854775807):IntKind.i64.wrap n=n:=by rw[IntKind.wrap_i64];omega
end Go.Proofs.YteeafhlnofapaaaGreat
end
section
namespace Go.Proofs.YteeafhlnofapaaaGreat
open Go.RowKit
section
variable {Rt:Nat->List AV->AV->Prop} {R:AV->Prop} {L:LK} {js:List JK} {ρ:List AV}
theorem DJ{gs:Gd}{c:Cn}{k:Tr}(h:A4 ρ gs->c.den ρ)(hk:k.den Rt R L js ρ):(Tr.bf gs c k).den Rt R L js ρ:=⟨h,hk⟩
theorem XO{gs:Gd}{f:Nat}{args:EL}{k:Tr}{r:AV}(h:A4 ρ gs->Rt f (args.den ρ) r)(hk:k.den Rt R L js (ρ++ [r])):(Tr.call gs (.inl f) args k).den Rt R L js ρ:=⟨r,h,hk⟩
theorem dA{gs:Gd}{x:E}{args:EL}{k:Tr}{r:AV}(h:A4 ρ gs-> ∃g caps,x.den ρ= .fn g caps/\Rt (1000000+g) (args.den ρ++caps) r/\ ∀y∈r.cells,y.scalar=true)(hk:k.den Rt R L js (ρ++ [r])):(Tr.call gs (.inr x) args k).den Rt R L js ρ:=⟨r,h,hk⟩
theorem Hu{c:E}{a b:Tr}{t:Bool}(h:c.den ρ= .bool t)(ha:t=true->a.den Rt R L js ρ)(hb:t=false->b.den Rt R L js ρ):(Tr.ite c a b).den Rt R L js ρ:=⟨t,h,ha,hb⟩
theorem Mr{r:E}(h:R (r.den ρ)):(Tr.ret r).den Rt R L js ρ:=h
theorem TH{es:EL}{j:JK}(h:j (es.den ρ)):(Tr.jmp 0 es).den Rt R L (j::js) ρ:=h
theorem eS{es:EL}{i j:JK}(h:j (es.den ρ)):(Tr.jmp 1 es).den Rt R L (i::j::js) ρ:=h
end
def fT(cn:Nat)(xs:List AV):Prop:= ∀x∈xs,∃cs,x= .agg cs/\cs.length=cn
theorem fT.at{cn:Nat}{xs:List AV}(h:fT cn xs){q:Nat}(hq:q<xs.length):∃cs,xs[q]= .agg cs/\cs.length=cn:=h _ (Bc hq)
section
variable {Rt:Nat->List AV->AV->Prop} {R:AV->Prop} {L:LK} {js:List JK} {ρ:List AV} {α β σ τ:Type}
theorem x6{x:E}{sz:Nat}{xs:List α}(f:α->AV)(hx:x.den ρ= .sl (xs.map f))(hf:∀y,(f y).cells.length=sz/\ ∀z∈(f y).cells,z.scalar=true):Cn.den ρ (.flatS x sz):=⟨_,hx,by simp only[List.mem_map];rintro _ ⟨y,_,rfl⟩;exact hf y⟩
end
@[simp] def Rh(n:Int):AV:= .int .u8 n
@[simp] def zvQ(x:List UInt8):AV:= .str x
attribute [simp] Cv NW AV.sidx AV.aeq AV.leq AV.seq AV.sk AV.cm AV.bytes AV.text
end Go.Proofs.YteeafhlnofapaaaGreat
end
section
namespace Go.Proofs.YteeafhlnofapaaaGreat
open Go.RowKit
section
variable {P:Program} {w:World}
theorem Db.fy{ts:List TypeId}{vs:List Value}{xs:List AV}{rf lf hs:List Nat}(h:Db P w ts [] [] vs xs rf lf hs):∀(ms:List PM) (lo:List Bool),(∀m∈ms,m= .ro)->Db P w ts ms lo vs xs rf lf hs:=by
 generalize hm:([]:List PM)=m0 at h;generalize hn:([]:List Bool)=n0 at h
 induction h with
 |nil=>intro ms lo _;exact .nil
 |lent h1 _ _ _ _=>subst hn;cases h1
 | @cons t ts ms' lo' v vs x xs f h rf lf hs AX _ ih=>
  subst hm;subst hn;intro ms lo D2;refine .cons ?_ (ih rfl rfl ms.tail lo.tail λm hm=>D2 m (List.mem_of_mem_tail hm));have:ms.headD .ro= .ro:=by cases ms with|nil=>rfl|cons m ms=>exact D2 m (by simp)
  rw[this];exact AX
 |free h1 _ ih=>subst hm;subst hn;intro ms lo D2;exact .free h1 (ih rfl rfl ms.tail lo.tail λm hm=>D2 m (List.mem_of_mem_tail hm))
theorem Da.fy{ts:List TypeId}{ms:List PM}{vs:List Value}{Bs:List AV}{f o:List Nat}(h:Da P w ts ms vs Bs f o)(D2:∀m∈ms,m= .ro):Da P w ts [] vs Bs f o:=by
 have hd:∀{ms:List PM},(∀m∈ms,m= .ro)->ms.headD .ro= .ro:=by intro ms h;cases ms with|nil=>rfl|cons m ms=>exact h m (by simp)
 induction h with
 |nil=>exact .nil
 |ro _ _ ih=>exact .ro rfl (ih λm hm=>D2 m (List.mem_of_mem_tail hm))
 |va h9 _ _=>rw[hd D2]at h9;cases h9
 |mu h9 _ _ _ _=>rw[hd D2]at h9;cases h9
 |bx h9 _ _ _ _ _ _ _ _=>rw[hd D2]at h9;cases h9
end
noncomputable def Yp(f:Nat)(r:AV):Bool:=
 match Tryz.prog.funcs[f]?,Cp f with
 |some fn,some s=>s.bh.all (λm=>match m with| .ro=>true|_=>false)&&s.ft.isEmpty&&(match fn.resultTypes.toList with| [t]=> !FJ Tryz.prog t s.res|_=>false)&&JI Tryz.prog fn {bh:=[],res:=[]} r
 |_,_=>false
theorem uH{f:Nat}{xs:List AV}{r:AV}(h:Cr Tryz.prog Cp f xs r)(hp:Yp f r=true):Cr Tryz.prog Cp (1000000+f) xs r:=by
 unfold Yp at hp;split at hp
 ·rename_i fn s hf hs;simp only[Ad,Bg]at hp;obtain⟨⟨⟨h1,CV⟩,h2⟩,h3⟩:=hp;have CV:s.ft=[]:=by simpa using CV
  have Dw:∀m∈s.bh,m= .ro:=λm hm=>by
   have:=h1 m hm;split at this
   ·rfl
   ·cases this
  unfold Cr at h ⊢;rw[if_pos (My f s hs)]at h;rw[if_neg (by omega),Nat.add_sub_cancel_left];obtain⟨s',A1,fn',O0,hb,hn,_,hl,_,hc⟩:=h;rw[hs]at A1;cases A1;rw[hf]at O0;cases O0;rw[CV]at hc;refine⟨fn,hf,hb,hn,h3,hl,by simp,λw vs rf lf A1 Ai hd jX BT DO=>(hc w vs rf lf A1 (Ai.fy _ _ Dw) hd jX BT DO).mono ?_⟩;rintro e w' ⟨v,rfl,⟨R,Bs,f1,o1,f2,o2,e1,e2,e3,e4,e5,e6⟩,hm⟩;rw[CV]at e3;refine⟨v,rfl,⟨R,Bs,f1,o1,f2,o2,e1,?_,e3.fy Dw,e4,e5,e6⟩,hm⟩;unfold Iz at e2 ⊢;split at h2
  ·rename_i t ht;rw[ht]at e2 ⊢;simp only at e2 ⊢;unfold Ee at e2 ⊢;have h2:FJ Tryz.prog t s.res=false:=by simpa using h2
   rw[if_neg (by rw[h2];simp)]at e2;rw[if_neg (by simp[FJ])];exact e2
  ·cases h2
 ·cases hp
section
variable {Rt:Nat->List AV->AV->Prop} {R:AV->Prop} {L:LK} {js:List JK} {ρ:List AV}
theorem wR{i:EL}{b k:Tr}(hL:It L)(n:Nat)(st:Nat->List AV)(J:Nat->Prop)(hJ:J 0)(h0:i.den ρ=st 0)(hb:∀q,q<=n->J q-> ∀W:JK,(q<n->J (q+1)->W (st (q+1)))->b.den Rt R L (W::(λus=>k.den Rt R L js (ρ++us))::js) (ρ++st q)):(Tr.loop i b k).den Rt R L js ρ:=by refine eZ hL (λm vs=> ∃q,q+m=n/\vs=st q/\J q) (m:=n) ⟨0,by omega,h0,hJ⟩ ?_;rintro m vs ⟨q,hq,rfl,hj⟩;exact hb q (by omega) hj _ λAA Km=>⟨m-1,by omega,q+1,by omega,rfl,Km⟩
end
def Ua(cn:Nat):Tr:=
 .bf [] (.dfd (.len (.var 0)))<|
 .loop (.cons (.int .i64 (0)) .nil) (
  .bf [] (.dfd (.bin .lss (.var 2) (.len (.var 0))))<|
  .ite (.bin .lss (.var 2) (.len (.var 0))) (
  .bf [] (.inb (.var 2) (.var 0) cn)<|
  .call [] (.inr (.var 1)) (.cons (.fld (.idx (.var 0) (.var 2)) 0 cn true) .nil)<|
  .ite (.var 3) (
   .ret (.var 2)) (
   .bf [] (.dfd (.bin .add (.var 2) (.int .i64 (1))))<|
   .jmp 0 (.cons (.bin .add (.var 2) (.int .i64 (1))) .nil))) (
  .jmp 1 .nil)) (
  .ret (.int .i64 (-1)))
def Fx{α:Type}(p:α->Option Bool):List α->Int->Option Int
 | [],_=>some (-1)
 |x::xs,i=>(p x).bind λb=>if b=true then some i else Fx p xs (i+1)
noncomputable def JC{α:Type}(xs:List α)(p:α->Option Bool):Option Int:=req (xs.length<=9223372036854775806) (Fx p xs 0)
noncomputable def Hp{α:Type}(xs:List α)(p:α->Option Bool):Option Bool:=(JC xs p).bind λi=>some (decide (i>=0))
noncomputable def Yi{α:Type}(bytes:Nat)(xs:List α):Option (List α):=req ((xs.length:Int)*bytes<=140737488355328/\(xs.length:Int)<=140737488355328) (some xs)
theorem uM{α:Type}{p:α->Option Bool}{l:List α}{r:Int}{q:Nat}(hq:q<l.length)(h:Fx p (l.drop q) q=some r):∃b,p l[q]=some b/\(b=true->r=q)/\(b=false->Fx p (l.drop (q+1)) ((q+1:Nat):Int)=some r):=by
 rw[A7 hq]at h;obtain⟨b,hb,h⟩:=I3 h;refine⟨b,hb,?_,?_⟩
 ·rintro rfl;simpa using h.symm
 ·rintro rfl;simpa using h
theorem fQ{α:Type}{av:α->AV}{l:List α}{p:α->Option Bool}{cn g:Nat}{caps:List AV}{r:Int}(hs:∀x,∃cs,av x= .agg cs/\cs.length=cn)(h:JC l p=some r)(hf:∀x b,p x=some b->Cr Tryz.prog Cp (1000000+g) (av x::caps) (.bool b)):Den (Ua cn) (.int .i64 r) [.sl (l.map av), .fn g caps]:=by
 obtain⟨hn,h⟩:=GG h;unfold Den Ua;refine DJ (by simp) ?_;refine wR aR l.length (λq=> [.int .i64 q]) (λq=>Fx p (l.drop q) q=some r) (by simpa using h) (by simp) λq hq hJ W hW=> ?_;by_cases AA:q<l.length
 ·obtain⟨cs,hc,hl⟩:=hs l[q];obtain⟨b,hb,GL,Gg⟩:=uM AA hJ;refine DJ (by simp[Cv]) (Hu (t:=true) (by simp[Cv,AA]) (λ_=> ?_) (by simp));refine DJ (λ_=>⟨.i64,q,l.length,by simp,by omega,by simp,by omega,by simp[AA,hc,hl]⟩) (dA (r:= .bool b) (λ_=>⟨g,caps,by simp,?_,by simp⟩) ?_)
  ·have:=hf l[q] b hb;rw[hc]at this;simpa[AA,hc,<-hl]using this
  ·cases b with
   |true=>exact Hu (t:=true) (by simp) (λ_=>Mr (by simp[GL rfl])) (by simp)
   |false=>refine Hu (t:=false) (by simp) (by simp) λ_=>DJ (by simp[Cv]) (TH ?_);have:=hW AA (Gg rfl);simpa[Cv,Ek (n:=(q:Int)+1) (by omega) (by omega)]using this
 ·have IH:q=l.length:=by omega
  subst IH;have hr:r= -1:=by simpa[Fx]using hJ.symm
  refine DJ (by simp[Cv]) (Hu (t:=false) (by simp[Cv]) (by simp) λ_=>eS ?_);exact Mr (by simp[hr])
def T9(f:Nat):Tr:=
 .call [] (.inl f) (.cons (.var 0) (.cons (.var 1) .nil))<|
 .bf [] (.dfd (.bin .geq (.var 2) (.int .i64 (0))))<|
 .ret (.bin .geq (.var 2) (.int .i64 (0)))
theorem fI{α:Type}{l:List α}{p:α->Option Bool}{f:Nat}{x y:AV}{r:Bool}(h:Hp l p=some r)(hf:∀i,JC l p=some i->Cr Tryz.prog Cp f [x,y] (.int .i64 i)):Den (T9 f) (.bool r) [x,y]:=by obtain⟨i,hi,h⟩:=I3 h;unfold Den T9;refine XO (λ_=>by simpa using hf i hi) (DJ (by simp[Cv]) (Mr ?_));simp only[Aa]at h;simp[Cv,<-h]
def Yu(bytes sz:Nat):Tr:=
 .bf [] (.dfd (.len (.var 0)))<|
 .bb [] (.var 0)<|
 .ite (.var 1) (
  .ret (.lst .nil)) (
  .bf [] (.room (.lst .nil) (.var 0) bytes)<|
  .bf [] (.flatS (.var 0) sz)<|
  .ret (.app (.lst .nil) (.var 0)))
theorem tJ{α:Type}{av:α->AV}{xs r:List α}{bytes sz:Nat}(hs:∀x,(av x).cells.length=sz/\ ∀z∈(av x).cells,z.scalar=true)(h:Yi bytes xs=some r):Den (Yu bytes sz) (.sl (r.map av)) [.sl (xs.map av)]:=by
 obtain⟨hq,h⟩:=GG h;cases h;unfold Den Yu;refine DJ (by simp) λb hb=> ?_;cases b with
 |true=>have:=hb (by simp) rfl;exact Hu (t:=true) (by simp) (λ_=>Mr (by simpa using this.symm)) (by simp)
 |false=>exact Hu (t:=false) (by simp) (by simp) λ_=>DJ (λ_=>⟨0,xs.length,by simp,by simp,by simpa using hq.1,by simpa using hq.2⟩) (DJ (λ_=>x6 (xs:=xs) av (by simp) hs) (Mr (by simp)))
end Go.Proofs.YteeafhlnofapaaaGreat
end
section
namespace Go.Proofs.YteeafhlnofapaaaGreat
open Go.ChangeShapes Go.WideShapes Go.ChangeAt Go.RowKit
theorem uX{P:Program}{w:World}:Db P w [] [] [] [] [] [] [] []:= .nil
theorem tN{P:Program}{w:World}{t:TypeId}{ts:List TypeId}{v:Value}{vs:List Value}{x:AV}{xs:List AV}{f rf:List Nat}(h:Rd w [v] [x] f)(k:Db P w ts [] [] vs xs rf [] []):Db P w (t::ts) [] [] (v::vs) (x::xs) (f++rf) [] []:=
 Db.cons (h:=[]) (hs:=[]) (ms:=[]) (lo:=[]) ⟨h,rfl⟩ k
theorem wW{P:Program}{sg:BE}{f:Nat}{fn:Func}{t:TypeId}{xs:List AV}(h:Cr P sg f xs (.bool true))(hf:f<1000000){s:Gc}(hs:sg f=some s)(CV:s.ft=[])(Dw:∀m∈s.bh,m= .ro)(Ei:FJ P t s.res=false)(GP:P.funcs[f]?=some fn)(hr:fn.resultTypes.toList=[t])
  {w:World} {vs:List Value} {rf:List Nat} (ha:Db P w fn.params.toList [] [] vs xs rf [] []) (DO:JB.n<=w.heap.size/\JB.K w):
  Calls P f vs.toArray w λe w'=>e= .returned (.bool true)/\Below w.heap.size w w':=by
 unfold Cr at h;rw[if_pos hf]at h;obtain⟨s',A1,fn',HO,_,_,_,_,_,hc⟩:=h;rw[hs]at A1;obtain rfl:=Option.some.inj A1;rw[GP]at HO;obtain rfl:=Option.some.inj HO;refine(hc w vs rf [] [] (by rw[CV,AE];exact ha.fy _ _ Dw) (by simp) (by simp) (by simp) ⟨DO.1,DO.2,by simp⟩).mono λe w' ⟨v,he,hp⟩=> ?_;obtain⟨⟨R,bs,f1,o1,f2,o2,hR,AJ,_⟩,hm⟩:=hp;have jH:R= .bool true:=by
  cases bs with
  |nil=>exact hR.symm
  |cons=>cases hR
 subst jH;rw[hr]at AJ;have h2:Ee P w' t s.res v (.bool true) f1 o1:=AJ;unfold Ee at h2;rw[Ei]at h2;obtain⟨h3,_⟩:=h2;have:v= .bool true:=by cases h3;rfl
 subst this;exact⟨he,hm.below⟩
section
variable {P:Program} {t:TypeId} {Q:List AV->Prop} {H:Type} {enc:TypeId × Value->H} {w:World} {spare:Nat->Bool} {held:Bool} {v:Value} {d:DataW H} {p:List MemPlace} {r:Reach} {base:Nat}
theorem xY(hO:Gb P t Q)(hc:v.cells= #[v])(h:DataW.Trod enc P w 0 spare held t v d p):∃x f,Rd w [v] [x] f/\Q [x]:=by
 obtain⟨n,h⟩:=h;rw[hc]at h;obtain⟨_,_,xs,f,hr,hq⟩:=hO.2 _ _ _ _ _ _ _ _ h;have hl:=hr.len
 match xs,hl with
 | [x],_=>exact⟨x,f,hr,hq⟩
theorem rZ{e:TypeId}(hO:Gb P t Q)(ht:P.underlying t=some (.slice e))(hv:Value.okWide P w r base t v)(h:DataW.Trod enc P w 0 spare held t v d p):∃x f,Rd w [v] [x] f/\Q [x]:=by obtain⟨a,l,c,rfl⟩:=okWide_slice ht hv;exact xY hO rfl h
end
theorem yY{a b:Bool}(ha:a=true)(hb:b=true):(a&&b)=true:=by rw[ha,hb];rfl
def Om(n:Int):Prop:=0<=n/\n<=255
def V9{α:Type}(ok:α->Prop)(l:List α):Prop:=l.length<=9223372036854775807/\ ∀x∈l,ok x
theorem zwe{n:Int}(h:Ex .u8 n):Om n:=by unfold Ex at h;simp only[IntKind.wrap,IntKind.bits,IntKind.signed]at h;unfold Om;simp at h;omega
section
variable {P:Program} {t e:TypeId} {α:Type} {ok:α->Prop} {av:α->AV}
theorem zwc(ht:P.underlying t=some (.int .u8))(hc:P.cellsOf t=1):Gb P t λxs=> ∃n,Om n/\xs=[Rh n]:=
 (yI ht hc).mono λ_ ⟨n,h,e⟩=>⟨n,zwe h,e⟩
theorem eA:∀{ys:List AV},(∀y∈ys,IB false (λxs=> ∃c,ok c/\xs=[av c]) y)-> ∃l:List α,(∀c∈l,ok c)/\ys=l.map av
 | [],_=>⟨[],by simp,rfl⟩
 |y::ys,h=>by obtain⟨l,hl,rfl⟩:=eA λz hz=>h z (List.mem_cons_of_mem _ hz);have h0:=h y (List.mem_cons_self ..);simp only[IB,B0,if_false]at h0;obtain⟨_,c,hk,hc⟩:=h0;exact⟨c::l,by simpa using⟨hk,hl⟩,by simp at hc;simp[hc]⟩
theorem zvU(ht:P.underlying t=some (.slice e))(hc:P.cellsOf t=1)(Kf:P.cellsOf e=1)(he:Gb P e λxs=> ∃c,ok c/\xs=[av c]):Gb P t λxs=> ∃l:List α,V9 ok l/\xs=[.sl (l.map av)]:=
 (sA false ht hc he (.inr Kf)).mono λ_ ⟨ys,hl,hy,e⟩=>by obtain⟨l,hk,rfl⟩:=eA hy;exact⟨l,⟨by simpa using hl,hk⟩,e⟩
end
end Go.Proofs.YteeafhlnofapaaaGreat
end
section
namespace Go.Proofs.YteeafhlnofapaaaGreat
open Go.RowKit
set_option maxRecDepth 100000
structure An where
 ab:Int
 aj:Int
 ae:List UInt8
 ar:List UInt8
 al:Bool
@[simp] def IS(x:An):AV:= .agg [.int .i64 x.ab, .int .i64 x.aj, .str x.ae, .str x.ar, .bool x.al]
structure Aw where
 ae:List UInt8
 ar:List UInt8
 al:Bool
@[simp] def Yh(x:Aw):AV:= .agg [.str x.ae, .str x.ar, .bool x.al]
structure BH where
 bg:List Int
 dg:Int
 bu:Int
@[simp] def zQ(x:BH):AV:= .agg [.sl (x.bg.map Rh), .int .i64 x.dg, .int .u64 x.bu]
structure BJ where
 ab:Int
 ar:List UInt8
 al:Bool
@[simp] def KZ(x:BJ):AV:= .agg [.int .i64 x.ab, .str x.ar, .bool x.al]
structure Ag where
 ae:List UInt8
 af:List BJ
@[simp] def Yv(x:Ag):AV:= .agg [.str x.ae, .sl (x.af.map KZ)]
structure Dc where
 ab:Int
 bj:List Aw
@[simp] def zH(x:Dc):AV:= .agg [.int .i64 x.ab, .sl (x.bj.map Yh)]
structure Uf where
 jc:Int
 ab:Int
 kt:Int
 kf:List (List UInt8)
 jb:List Aw
@[simp] def gU(x:Uf):AV:= .agg [.int .i64 x.jc, .int .i64 x.ab, .int .i64 x.kt, .sl (x.kf.map zvQ), .sl (x.jb.map Yh)]
structure YL where
 jc:Int
 lp:Bool
 ab:Int
@[simp] def gS(x:YL):AV:= .agg [.int .i64 x.jc, .bool x.lp, .int .i64 x.ab]
structure NY where
 j0:Int
 bw:List Ag
 k8:List Uf
 ku:List YL
@[simp] def x8(x:NY):AV:= .agg [.int .i64 x.j0, .sl (x.bw.map Yv), .sl (x.k8.map gU), .sl (x.ku.map gS)]
structure CU where
 aw:Int
 cz:Int
 au:List An
@[simp] def yW(x:CU):AV:= .agg [.int .i64 x.aw, .int .i64 x.cz, .sl (x.au.map IS)]
end Go.Proofs.YteeafhlnofapaaaGreat
end
section
namespace Go.Proofs.YteeafhlnofapaaaGreat
open Go.ChangeShapes Go.WideShapes Go.ChangeAt Go.RowKit
set_option maxRecDepth 100000
theorem mR:Gb Tryz.prog 5 λxs=> ∃n,Om n/\xs=[Rh n]:=zwc Tryz.underlying5 (by kernel_rfl)
theorem mQ:Gb Tryz.prog 22 λxs=> ∃l:List Int,V9 Om l/\xs=[.sl (l.map Rh)]:=zvU Tryz.underlying22 (by kernel_rfl) (by kernel_rfl) mR
end Go.Proofs.YteeafhlnofapaaaGreat
end
section
namespace Go.Proofs.YteeafhlnofapaaaGreat
open Go.RowKit
set_option maxRecDepth 100000
def IW{α:Type}(p:α->Option Bool):List α->Option (List α)
 | []=>some []
 |x::xs=>(p x).bind λb=>(IW p xs).bind λr=>some (if b=true then r else x::r)
noncomputable def SJ{α:Type}(xs:List α)(p:α->Option Bool):Option (List α):=req (xs.length<=9223372036854775806) (IW p xs)
theorem bX{α:Type}{p:α->Option Bool}(q:α->Bool):∀{l:List α},(∀x∈l,p x=some (q x))->IW p l=some (l.filter λx=> !q x)
 | [],_=>rfl
 |x::l,h=>by have e:=bX (p:=p) q (l:=l) λy hy=>h y (List.mem_cons_of_mem _ hy);simp only[IW,h x (by simp),e,Af,List.filter_cons];cases q x<;>rfl
theorem qA{α:Type}{p:α->Option Bool}{l r:List α}{q:Nat}(hq:q<l.length)(h:IW p (l.drop q)=some r):∃b r',p l[q]=some b/\IW p (l.drop (q+1))=some r'/\r=if b=true then r' else l[q]::r':=by rw[A7 hq]at h;obtain⟨b,hb,h⟩:=I3 h;obtain⟨r',hr,h⟩:=I3 h;exact⟨b,r',hb,hr,by simpa using h.symm⟩
theorem aF{α:Type}{p:α->Option Bool}:∀{l r:List α} (i:Int),IW p l=some r->(Fx p l i=some (-1)/\r=l)\/ ∃k r',k<l.length/\Fx p l i=some (i+(k:Nat))/\IW p (l.drop (k+1))=some r'/\r=l.take k++r'
 | [],r,i,h=>by cases h;exact .inl ⟨rfl,rfl⟩
 |x::l,r,i,h=>by
  obtain⟨b,hb,h⟩:=I3 h;obtain⟨r1,hr,h⟩:=I3 h;cases b with
  |true=>
   have:r1=r:=by simpa using h
   subst this;exact .inr ⟨0,r1,by simp,by simp[Fx,hb],by simpa using hr,by simp⟩
  |false=>
   have:r=x::r1:=by simpa using h.symm
   subst this;rcases aF (i+1) hr with⟨h1,rfl⟩|⟨k,r',h1,h2,h3,rfl⟩
   ·exact .inl ⟨by simp[Fx,hb,h1],rfl⟩
   ·exact .inr ⟨k+1,r',by simp;omega,by simp[Fx,hb,h2];omega,by simpa using h3,by simp⟩
def iD(ck:List Cn)(k:Tr):Tr:=ck.foldr (λc k=> .bf [] c k) k
section
variable {Rt:Nat->List AV->AV->Prop} {R:AV->Prop} {L:LK} {js:List JK} {ρ:List AV}
theorem eE:∀{ck:List Cn} {k:Tr},(∀c∈ck,c.den ρ)->k.den Rt R L js ρ->(iD ck k).den Rt R L js ρ
 | [],_,_,hk=>hk
 |c::ck,k,h,hk=>⟨λ_=>h c (by simp),eE (λq hq=>h q (by simp[hq])) hk⟩
theorem uT{t k:Tr}{K:List AV->Prop}(hK:∀vs,K vs->k.den Rt R L js (ρ++vs))(ht:∀j:JK,(∀vs,K vs->j vs)->t.den Rt R L (j::js) ρ):(Tr.join t k).den Rt R L js ρ:=ht _ hK
end
def YJ(fi cn:Nat)(g:Bool)(X:E)(ck:List Cn)(z:E):Tr:=
 .call [] (.inl fi) (.cons (.var 0) (.cons (.var 1) .nil))<|
 .bf [] (.dfd (.bin .eql (.var 2) (.int .i64 (-1))))<|
 .ite (.bin .eql (.var 2) (.int .i64 (-1))) (
  .ret (.var 0)) (
  .bf [] (.dfd (.bin .add (.var 2) (.int .i64 (1))))<|
  .loop (.cons (.var 2) (.cons (.bin .add (.var 2) (.int .i64 (1))) (.cons (.var 0) .nil))) (
  .bf [] (.dfd (.len (.var 5)))<|
  .bf [] (.dfd (.bin .lss (.var 4) (.len (.var 5))))<|
  .ite (.bin .lss (.var 4) (.len (.var 5))) (
   .join (
   .bf [] (.inb (.var 4) (.var 5) cn)<|
   iD ck<|
   .call [] (.inr (.var 1)) (.cons X .nil)<|
   .bf [] (.dfd (.not (.var 6)))<|
   .ite (.not (.var 6)) (
    .bf [] (.inb (.var 3) (.var 5) cn)<|
    .bf [] (.flat X cn g)<|
    .bf [] (.flat (.fld (.idx (.var 5) (.var 3)) 0 cn g) cn g)<|
    .bf [] (.dfd (.bin .add (.var 3) (.int .i64 (1))))<|
    .jmp 0 (.cons (.bin .add (.var 3) (.int .i64 (1))) (.cons (.set (.var 5) (.var 3) (.put (.idx (.var 5) (.var 3)) 0 X g)) .nil))) (
    .jmp 0 (.cons (.var 3) (.cons (.var 5) .nil)))) (
   .bf [] (.dfd (.bin .add (.var 4) (.int .i64 (1))))<|
   .jmp 0 (.cons (.var 6) (.cons (.bin .add (.var 4) (.int .i64 (1))) (.cons (.var 7) .nil))))) (
   .jmp 1 (.cons (.var 3) (.cons (.var 5) .nil)))) (
  .bf [] (.win (.var 4) (.var 3) (.len (.var 4)))<|
  .bf [] (.win (.var 4) (.var 3) (.len (.var 4)))<|
  .bf [] (.dfd (.bin .sub (.len (.var 4)) (.var 3)))<|
  .bf [] (.win (.app (.win (.var 4) (.int .i64 (0)) (.var 3)) (.rep (.bin .sub (.len (.var 4)) (.var 3)) z)) (.int .i64 (0)) (.var 3))<|
  .ret (.win (.app (.win (.var 4) (.int .i64 (0)) (.var 3)) (.rep (.bin .sub (.len (.var 4)) (.var 3)) z)) (.int .i64 (0)) (.var 3))))
theorem yF{α:Type}{av:α->AV}{l r:List α}{p:α->Option Bool}{fi cn g9:Nat}{g:Bool}{X z:E}{ck:List Cn}{caps:List AV}
  (hs:∀x,(av x).cells.length=cn/\(∀z∈(av x).cells,z.scalar=true)/\(g=true-> ∃cs,av x= .agg cs)/\(g=false->(av x).scalar=true)) (hcn:0<cn)
  (hX:∀(a b c d:AV) (j:Nat) (ys:List AV) (x:α) (tl:List AV),ys[j]?=some (av x)->X.den ([a,b,c,d, .int .i64 j, .sl ys]++tl)=av x)
  (Ji:∀(a b c d:AV) (j:Nat) (ys:List AV) (x:α),ys[j]?=some (av x)-> ∀q∈ck,q.den [a,b,c,d, .int .i64 j, .sl ys])
  (h:SJ l p=some r) (hi:∀i,JC l p=some i->Cr Tryz.prog Cp fi [.sl (l.map av), .fn g9 caps] (.int .i64 i))
  (hf:∀x b,p x=some b->Cr Tryz.prog Cp (1000000+g9) (av x::caps) (.bool b)):Den (YJ fi cn g X ck z) (.sl (r.map av)) [.sl (l.map av), .fn g9 caps]:=by
 obtain⟨hn,h⟩:=GG h;unfold Den YJ;have H6:∀x y:α,(av y).cm 0 (av x) g=av x:=by
  intro x y;cases g with
  |false=>rfl
  |true=>
   obtain⟨cs,Bb⟩:=(hs x).2.2.1 rfl;have e1:=(hs x).1;have e2:=(hs y).1;have e3:(av x).cells=cs:=by rw[Bb];rfl
   have e4:(av y).cells.drop (0+cs.length)=[]:=List.drop_eq_nil_of_le (by rw[e2,<-e1,e3];omega);show AV.agg ((av y).cells.take 0++(av x).cells++(av y).cells.drop (0+(av x).cells.length))=av x;rw[e3,e4,AE,List.take_zero,List.nil_append,Bb]
 have Va:∀x:α,(av x).fld 0 cn g=av x:=by
  intro x;cases g with
  |false=>have:=qY ((hs x).2.2.2 rfl);simp[AV.fld,this]
  |true=>obtain⟨cs,Bb⟩:=(hs x).2.2.1 rfl;have e1:=(hs x).1;rw[Bb]at e1 ⊢;simp only[AV.fld,if_true,AV.cells]at e1 ⊢;rw[List.drop_zero,List.take_of_length_le (by omega)]
 have BC:∀(e:E) (ρ:List AV) (x:α),e.den ρ=av x->Cn.den ρ (.flat e cn g):=λe ρ x he=>by
  show(e.den ρ).cells.length=cn/\(∀y∈(e.den ρ).cells,y.scalar=true)/\(g=true-> ∃cs,e.den ρ= .agg cs)/\(g=false->(e.den ρ).scalar=true)
  rw[he];exact hs x
 rcases aF 0 h with⟨h1,rfl⟩|⟨k0,r0,IG,h1,h2,rfl⟩
 ·refine XO (r:= .int .i64 (-1)) (λ_=>hi _ (by unfold JC;rw[show req (r.length<=9223372036854775806) (Fx p r 0)=Fx p r 0 from if_pos hn];exact h1)) ?_;exact DJ (by simp[Cv]) (Hu (t:=true) (by simp[Cv]) (λ_=>Mr (by simp)) (by simp))
 ·refine XO (r:= .int .i64 k0) (λ_=>hi _ (by unfold JC;rw[show req (l.length<=9223372036854775806) (Fx p l 0)=Fx p l 0 from if_pos hn,h1];simp)) ?_;have hw:IntKind.i64.wrap ((k0:Int)+1)=k0+1:=Ek (by omega) (by omega);refine DJ (by simp[Cv]) (Hu (t:=false) (by simp[Cv];try omega) (by simp) λ_=>DJ (by simp[Cv]) ?_);refine eZ aR (λm vs=> ∃(j:Nat) (K zs r':List α),j+m=l.length/\vs=[.int .i64 K.length, .int .i64 j, .sl (zs.map av)]/\K.length<j/\zs.length=l.length/\zs.take K.length=K/\zs.drop j=l.drop j/\IW p (l.drop j)=some r'/\l.take k0++r0=K++r') (m:=l.length-(k0+1))
   ⟨k0+1,l.take k0,l,r0,by omega,?_,by simp;omega,rfl,by simp[Nat.min_eq_left (Nat.le_of_lt IG)],rfl,h2,rfl⟩ ?_
  ·simp[Cv,hw,Nat.min_eq_left (Nat.le_of_lt IG)]
  rintro m vs ⟨j,K,zs,r',hj,rfl,hKj,PI,V6,V5,CP,AJ⟩;refine DJ (by simp) (DJ (by simp[Cv]) ?_);by_cases AA:j<l.length
  ·refine Hu (t:=true) (by simp[Cv,PI,AA]) (λ_=> ?_) (by simp);obtain⟨b,r2,hb,Dv,ZC⟩:=qA AA CP;have ZM:zs[j]?=some l[j]:=by
    have:=congrArg (λL=>L[0]?) V5;simpa[AA]using this
   have FH:(zs.map av)[j]?=some (av l[j]):=by simp[ZM]
   have OE:K.length<zs.length:=by omega
   have mB:IntKind.i64.wrap ((j:Int)+1)=j+1:=Ek (by omega) (by omega);have l8:IntKind.i64.wrap ((K.length:Int)+1)=K.length+1:=Ek (by omega) (by omega);refine uT (K:=λus=> ∃(K' zs':List α),us=[.int .i64 K'.length, .sl (zs'.map av)]/\K'.length<j+1/\zs'.length=l.length/\zs'.take K'.length=K'/\zs'.drop (j+1)=l.drop (j+1)/\l.take k0++r0=K'++r2) ?_ ?_
   ·rintro us ⟨K',zs',rfl,a1,a2,a3,a4,a5⟩;refine DJ (by simp[Cv]) (TH ⟨m-1,by omega,j+1,K',zs',r2,by omega,?_,a1,a2,a3,a4,Dv,a5⟩);simp[Cv,mB]
   ·intro J hJ;refine DJ (λ_=>⟨.i64,j,zs.length,by simp,by omega,by simp,by omega,?_⟩) (eE (Ji _ _ _ _ j (zs.map av) _ FH) (dA (r:= .bool b) (λ_=>⟨g9,caps,by simp,?_,by simp⟩) ?_))
    ·simp[AV.nth,ZM,(hs l[j]).1]
    ·have e1:=hX (.sl (l.map av)) (.fn g9 caps) (.int .i64 k0) (.int .i64 K.length) j (zs.map av) l[j] [] FH;rw[AE]at e1;show Cr Tryz.prog Cp (1000000+g9) ([X.den [.sl (l.map av), .fn g9 caps, .int .i64 k0, .int .i64 K.length, .int .i64 j, .sl (zs.map av)]]++caps) (.bool b);rw[e1];exact hf _ _ hb
    ·refine DJ (by simp) ?_;have e2:=hX (.sl (l.map av)) (.fn g9 caps) (.int .i64 k0) (.int .i64 K.length) j (zs.map av) l[j] [.bool b] FH;cases b with
     |true=>refine Hu (t:=false) (by simp) (by simp) λ_=>TH (hJ _ ⟨K,zs,by simp,by omega,PI,V6,?_,by rw[AJ,ZC];simp⟩);have:=congrArg (List.drop 1) V5;simpa[List.drop_drop]using this
     |false=>
      refine Hu (t:=true) (by simp) (λ_=> ?_) (by simp);obtain⟨zk,ZN⟩:∃zk,zs[K.length]?=some zk:=⟨zs[K.length],by simp[OE]⟩
      have e3:(E.idx (.var 5) (.var 3)).den ([AV.sl (l.map av), .fn g9 caps, .int .i64 k0, .int .i64 K.length, .int .i64 j, .sl (zs.map av)]++ [.bool false])=av zk:=by simp[AV.nth,ZN]
      refine DJ (λ_=>⟨.i64,K.length,zs.length,by simp,by omega,by simp,by omega,?_⟩) (DJ (λ_=>BC _ _ _ e2) (DJ (λ_=>BC _ _ zk ?_) (DJ (by simp[Cv]) (TH (hJ _ ⟨K++ [l[j]],zs.set K.length l[j],?_,by simp;omega,by simpa using PI,?_,?_,by rw[AJ,ZC];simp⟩)))))
      ·simp[AV.nth,ZN,(hs zk).1]
      ·exact(congrArg (λy=>AV.fld y 0 cn g) e3).trans (Va zk)
      ·have e4:(E.set (.var 5) (.var 3) (.put (.idx (.var 5) (.var 3)) 0 X g)).den ([AV.sl (l.map av), .fn g9 caps, .int .i64 k0, .int .i64 K.length, .int .i64 j, .sl (zs.map av)]++ [.bool false])= .sl ((zs.set K.length l[j]).map av):=by
        show AV.ch _ _ (AV.cm ((E.idx (.var 5) (.var 3)).den _) 0 (X.den _) g)=_;rw[e3,e2,H6];simp[AV.ch,List.map_set]
       show EL.den _ (.cons (.bin .add (.var 3) (.int .i64 1)) (.cons (.set (.var 5) (.var 3) (.put (.idx (.var 5) (.var 3)) 0 X g)) .nil))=_;simp only[EL.den];have e5:(E.bin .add (.var 3) (.int .i64 1)).den ([AV.sl (l.map av), .fn g9 caps, .int .i64 k0, .int .i64 K.length, .int .i64 j, .sl (zs.map av)]++ [.bool false])= .int .i64 ((K++ [l[j]]).length:Int):=by simp[Cv,l8]
       congr 1;congr 1
      ·rw[AO,DI,List.take_add_one,List.take_set_of_le (Ar _),V6];simp[OE]
      ·rw[List.drop_set_of_lt (by omega)];have:=congrArg (List.drop 1) V5;simpa[List.drop_drop]using this
  ·have kG:j=l.length:=by omega
   subst kG;refine Hu (t:=false) (by simp[Cv,PI]) (by simp) λ_=>eS ?_;have Hk:r'=[]:=by rw[List.drop_eq_nil_of_le (Ar _)]at CP;exact(by simpa[IW]using CP.symm)
   subst Hk;rw[AJ,AE];have PG:IntKind.i64.wrap ((zs.length:Int)-K.length)=zs.length-K.length:=Ek (by omega) (by omega);have d3:(E.var 3).den ([AV.sl (l.map av),AV.fn g9 caps]++ [AV.int .i64 (k0:Int)]++ [AV.int .i64 (K.length:Int),AV.sl (zs.map av)])= .int .i64 K.length:=by simp
   have d4:(E.var 4).den ([AV.sl (l.map av),AV.fn g9 caps]++ [AV.int .i64 (k0:Int)]++ [AV.int .i64 (K.length:Int),AV.sl (zs.map av)])= .sl (zs.map av):=by simp
   have dm:(E.bin .sub (.len (.var 4)) (.var 3)).den ([AV.sl (l.map av),AV.fn g9 caps]++ [AV.int .i64 (k0:Int)]++ [AV.int .i64 (K.length:Int),AV.sl (zs.map av)])= .int .i64 ((zs.length:Int)-K.length):=by simp[Cv,PG]
   have G1:Cn.den ([AV.sl (l.map av),AV.fn g9 caps]++ [AV.int .i64 (k0:Int)]++ [AV.int .i64 (K.length:Int),AV.sl (zs.map av)]) (.win (.var 4) (.var 3) (.len (.var 4))):=⟨.i64,K.length, .i64,zs.length,zs.length,d3,by simp,by rw[d4];simp,by omega,by omega,by omega⟩
   have dapp:(E.app (.win (.var 4) (.int .i64 (0)) (.var 3)) (.rep (.bin .sub (.len (.var 4)) (.var 3)) z)).den ([AV.sl (l.map av),AV.fn g9 caps]++ [AV.int .i64 (k0:Int)]++ [AV.int .i64 (K.length:Int),AV.sl (zs.map av)])= .sl ((zs.map av).take K.length++List.replicate (zs.length-K.length) (z.den ([AV.sl (l.map av),AV.fn g9 caps]++ [AV.int .i64 (k0:Int)]++ [AV.int .i64 (K.length:Int),AV.sl (zs.map av)]))):=by show AV.app (AV.win ((E.var 4).den _) (.int .i64 0) ((E.var 3).den _)) (AV.rep ((E.bin .sub (.len (.var 4)) (.var 3)).den _) _)=_;rw[d3,d4,dm];simp only[AV.win,AV.rep,AV.app,G2,Int.toNat_zero,List.drop_zero];congr 3;omega
   refine DJ (λ_=>G1) (DJ (λ_=>G1) (DJ (λ_=>λhu=>by have:=dm.symm.trans hu;simp at this) (DJ (λ_=>⟨.i64,0, .i64,K.length,zs.length,rfl,d3,?_,by omega,by omega,by omega⟩) (Mr ?_))))
   ·refine(congrArg AV.len dapp).trans ?_;simp only[AV.len,AO,AF,List.length_map,List.length_replicate];congr 1;omega
   ·refine(congrArg (λy=>AV.win y (.int .i64 0) (.int .i64 K.length)) dapp).trans ?_;simp only[AV.win,G2,Int.toNat_zero,List.drop_zero];rw[List.take_append_of_le_length (by simp;omega),List.take_take,Nat.min_self,<-List.map_take,V6]
abbrev iU:Nat->List AV->AV->Prop:=Cr Tryz.prog Cp
@[reducible] def Oi:Nat->Type
 |0=>An
 |1=>Aw
 |2=>BH
 |3=>BJ
 |4=>Ag
 |5=>Dc
 |6=>Uf
 |7=>YL
 |8=>NY
 |9=>CU
 |_+10=>Unit
@[reducible] def Ug:Nat->List Ty
 |0=> [.i .i64, .i .i64, .s, .s, .b]
 |1=> [.s, .s, .b]
 |2=> [.l (.i .u8), .i .i64, .i .u64]
 |3=> [.i .i64, .s, .b]
 |4=> [.s, .l (.st 3)]
 |5=> [.i .i64, .l (.st 1)]
 |6=> [.i .i64, .i .i64, .i .i64, .l .s, .l (.st 1)]
 |7=> [.i .i64, .b, .i .i64]
 |8=> [.i .i64, .l (.st 4), .l (.st 6), .l (.st 7)]
 |9=> [.i .i64, .i .i64, .l (.st 0)]
 |_+10=> []
def PN:∀n,Oi n->AV
 |0,x=>IS x
 |1,x=>Yh x
 |2,x=>zQ x
 |3,x=>KZ x
 |4,x=>Yv x
 |5,x=>zH x
 |6,x=>gU x
 |7,x=>gS x
 |8,x=>x8 x
 |9,x=>yW x
 |_+10,_=> .agg []
def YY:∀n,Oi n->HL Oi (Ug n)
 |0,x=>(x.ab,x.aj,x.ae,x.ar,x.al,())
 |1,x=>(x.ae,x.ar,x.al,())
 |2,x=>(x.bg,x.dg,x.bu,())
 |3,x=>(x.ab,x.ar,x.al,())
 |4,x=>(x.ae,x.af,())
 |5,x=>(x.ab,x.bj,())
 |6,x=>(x.jc,x.ab,x.kt,x.kf,x.jb,())
 |7,x=>(x.jc,x.lp,x.ab,())
 |8,x=>(x.j0,x.bw,x.k8,x.ku,())
 |9,x=>(x.aw,x.cz,x.au,())
 |_+10,_=>()
def ZP:∀n,HL Oi (Ug n)->Oi n
 |0,x=>⟨x.1,x.2.1,x.2.2.1,x.2.2.2.1,x.2.2.2.2.1⟩
 |1,x=>⟨x.1,x.2.1,x.2.2.1⟩
 |2,x=>⟨x.1,x.2.1,x.2.2.1⟩
 |3,x=>⟨x.1,x.2.1,x.2.2.1⟩
 |4,x=>⟨x.1,x.2.1⟩
 |5,x=>⟨x.1,x.2.1⟩
 |6,x=>⟨x.1,x.2.1,x.2.2.1,x.2.2.2.1,x.2.2.2.2.1⟩
 |7,x=>⟨x.1,x.2.1,x.2.2.1⟩
 |8,x=>⟨x.1,x.2.1,x.2.2.1,x.2.2.2.1⟩
 |9,x=>⟨x.1,x.2.1,x.2.2.1⟩
 |_+10,_=>()
theorem zG:∀n x,PN n x= .agg (GF PN (Ug n) (YY n x))
 |0,_=>rfl
 |1,_=>rfl
 |2,_=>rfl
 |3,_=>rfl
 |4,_=>rfl
 |5,_=>rfl
 |6,_=>rfl
 |7,_=>rfl
 |8,_=>rfl
 |9,_=>rfl
 |_+10,_=>rfl
theorem yK:∀n h,YY n (ZP n h)=h
 |0,_=>rfl
 |1,_=>rfl
 |2,_=>rfl
 |3,_=>rfl
 |4,_=>rfl
 |5,_=>rfl
 |6,_=>rfl
 |7,_=>rfl
 |8,_=>rfl
 |9,_=>rfl
 |_+10,_=>rfl
@[reducible] def C6:Hf:=⟨iU,Oi,PN,Ug,YY,ZP,zG,yK⟩
abbrev FS:=FN C6
noncomputable def Wb(tb:List FS)(hs:List JM)(o:Option Tr)(ps:List PT)(r:RT)(xs:HP C6.car ps)(hp:He C6 ps xs):Option (GH C6.car r):=match o with
 |some t=>Ce tb 100000 (M3 r) t hs (R2 ps xs hp) [] []
 |none=>none
theorem zvz{f:Nat}{ps:List PT}{r:RT}{φ:HP C6.car ps->Option (GH C6.car r)}(tb:List FS)(hs:List JM)(h:∀xs hp,Wb tb hs (Ri Tryz.prog Cp f) ps r xs hp=φ xs)(hk:∀xs y,Uj Tryz.prog Cp f (Fc C6 ps xs) (Fy C6 r y)=true)(xs:HP C6.car ps)(y:GH C6.car r)(hp:He C6 ps xs)(e:φ xs=some y):C6.Rt f (Fc C6 ps xs) (Fy C6 r y):=by
 rw[<-h xs hp]at e;unfold Wb at e;split at e
 ·rename_i t ht;refine MA ht (hk xs y) ?_;unfold Den;rw[<-fV ps xs hp];exact Ec tb 100000 (fa:=[]) (λ_ h=>nomatch h) (λ_ h=>nomatch h) (λv hv=>Yn r hv) .nil e
 ·cases e
noncomputable def AR(f:Nat)(ps:List PT)(r:RT)(φ:HP C6.car ps->Option (GH C6.car r))(tb:List FS)(hs:List JM)(h:∀xs hp,Wb tb hs (Ri Tryz.prog Cp f) ps r xs hp=φ xs:=by intro _ _;kernel_rfl)(hk:∀xs y,Uj Tryz.prog Cp f (Fc C6 ps xs) (Fy C6 r y)=true:=by intro _ _;kernel_rfl):FS:=
 ⟨f,ps,r,φ,λxs y hp e=>zvz tb hs h hk xs y hp e,false,λh=>by cases h⟩
noncomputable def L2(d:FS)(h:∀y,Yp d.f (Fy C6 d.r y)=true):FS:=
 ⟨d.f,d.ps,d.r,d.φ,d.ok,true,λ_ xs y hx e=>uH (d.ok xs y hx e) (h y)⟩
noncomputable def IK(f:Nat)(ps:List PT)(r:RT)(φ:HP C6.car ps->Option (GH C6.car r))(ok:∀xs y,He C6 ps xs->φ xs=some y->C6.Rt f (Fc C6 ps xs) (Fy C6 r y)):FS:=⟨f,ps,r,φ,ok,false,λh=>by cases h⟩
end Go.Proofs.YteeafhlnofapaaaGreat
end
section
namespace Go.Proofs.YteeafhlnofapaaaGreat
open Go.RowKit
theorem Db.rd{P:Program}{w:World}{ts:List TypeId}{ms:List PM}{lo:List Bool}{vs:List Value}{xs:List AV}{rf lf hs:List Nat}(h:Db P w ts ms lo vs xs rf lf hs):lo=[]->(∀m∈ms,m= .ro)->Rd w vs xs rf/\hs=[]:=by
 induction h with
 |nil=>intro _ _;exact⟨.nil,rfl⟩
 |lent h1 _ _ _ _=>intro BN;subst BN;cases h1
 | @cons t ts ms lo v vs x xs f h rf lf hs AX _ ih=>
  intro BN D2;subst BN;obtain⟨h1,rfl⟩:=ih rfl λm hm=>D2 m (List.mem_of_mem_tail hm);have Dw:ms.headD .ro= .ro:=by
   cases ms with
   |nil=>rfl
   |cons m ms=>exact D2 m (by simp)
  rw[Dw]at AX;obtain⟨h2,h3⟩:Rd w [v] [x] f/\h=[]:=AX;subst h3;exact⟨by simpa using h2.app h1,rfl⟩
 |free h1 _ ih=>intro BN D2;subst BN;obtain⟨h2,rfl⟩:=ih rfl λm hm=>D2 m (List.mem_of_mem_tail hm);exact⟨by simpa using h1.app h2,rfl⟩
theorem Da.gn{P:Program}{w:World}:∀{ts:List TypeId} {ms:List PM} {vs:List Value},vs.length=ts.length->(∀m∈ms,m= .ro)->Da P w ts ms vs [] [] []
 | [],_,vs,_,_=> .nil
 |t::ts,ms,[],h,_=>by simp at h
 |t::ts,ms,v::vs,h,D2=>by
  refine .ro ?_ (Da.gn (by simpa using h) λm hm=>D2 m (List.mem_of_mem_tail hm));cases ms with
  |nil=>rfl
  |cons m ms=>exact D2 m (by simp)
def YT(P:Program)(sg:BE)(f np:Nat)(r:AV):Bool:=
 match P.funcs[f]?,sg f with
 |some fn,some s=>fn.body.isSome&& !(fn.name== "runtime.NumGoroutine")&&JI P fn s r&&s.bh.all (λm=>match m with| .ro=>true|_=>false)&&fn.params.size==np&&fn.nfree==0&&(s.ft.isEmpty&&s.lo.isEmpty)&&(match fn.resultTypes.toList with| [t]=> !FJ P t s.res|_=>false)
 |_,_=>false
theorem uU{f:Nat}{xs:List AV}{r:AV}(hk:YT Tryz.prog Cp f xs.length r=true)(hc:∀(w:World) (vs:List Value) (rf:List Nat),JB.K w->Rd w vs xs rf->Calls Tryz.prog f vs.toArray w λe w'=>Mod [] w w'/\ ∃v f1,e= .returned v/\Rd w' [v] [r] f1/\ ∀b∈f1,b∈rf\/w.heap.size<=b):Cr Tryz.prog Cp f xs r:=by
 unfold YT at hk;split at hk
 ·rename_i fn s hf hs;simp only[Ad,Bh,AB,Bg]at hk;obtain⟨⟨⟨⟨⟨⟨⟨h1,h2⟩,h3⟩,h4⟩,h5⟩,h6⟩,CV⟩,h7⟩:=hk;obtain⟨CV,BN⟩:s.ft=[]/\s.lo=[]:=by simpa using CV
  have Dw:∀m∈s.bh,m= .ro:=λm hm=>by
   have:=h4 m hm;split at this
   ·rfl
   ·cases this
  unfold Cr;rw[if_pos (My f s hs)];refine⟨s,hs,fn,hf,h1,h2,h3,by omega,by simp[CV],λw vs rf lf A1 Ai hd _ BT DO=> ?_⟩;obtain⟨hr,rfl⟩:=Ai.rd BN Dw;refine(hc w vs rf DO.2.1 hr).mono ?_;rintro e w' ⟨hm,v,f1,rfl,hv,hb⟩;refine⟨v,rfl,⟨⟨r,[],f1,[],[],[],rfl,?_,Da.gn ?_ Dw,by simp,by simp,λb BF=>⟨by simp,?_⟩⟩,hm⟩⟩
  ·unfold Iz;split at h7
   ·rename_i t ht;rw[ht];show Ee Tryz.prog w' t s.res v r f1 [];unfold Ee;rw[if_neg (by rw[Bool.not_eq_true];simpa using h7)];exact⟨hv,rfl⟩
   ·cases h7
  ·rw[hr.len];simp[CV];omega
  ·rcases hb b (by simpa using BF)with h|h
   ·exact .inl h
   ·exact .inr (.inr h)
 ·cases hk
theorem yC{f:Nat}{xs:List AV}{r:AV}(hk:YT Tryz.prog Cp f xs.length r=true)(hc:∀(w:World) (vs:List Value) (rf:List Nat),Rd w vs xs rf->Calls Tryz.prog f vs.toArray w λe w'=>Mod [] w w'/\ ∃v f1,e= .returned v/\Rd w' [v] [r] f1/\ ∀b∈f1,b∈rf\/w.heap.size<=b):Cr Tryz.prog Cp f xs r:=
 uU hk λw vs rf _ hr=>hc w vs rf hr
theorem YB{w:World}{s:List UInt8}{vs:List Value}{xs:List AV}{f:List Nat}(h:Rd w vs (.str s::xs) f):∃(b:ByteArray) (us:List Value),vs= .string b::us/\b.data.toList=s/\b.size<=9223372036854775807/\Rd w us xs f:=by
 cases h with
 |str a h=>exact⟨_,_,rfl,rfl,a,h⟩
theorem T1{w:World}{k:IntKind}{n:Int}{vs:List Value}{xs:List AV}{f:List Nat}(h:Rd w vs (.int k n::xs) f):∃us:List Value,vs= .int k n::us/\Ex k n/\Rd w us xs f:=by
 cases h with
 |int a h=>exact⟨_,rfl,a,h⟩
theorem Yk{w:World}{vs:List Value}{f:List Nat}(h:Rd w vs [] f):vs=[]/\f=[]:=by cases h;exact⟨rfl,rfl⟩
end Go.Proofs.YteeafhlnofapaaaGreat
end
section
namespace Go.Proofs
open Go.Shelf
def Tryz.jg:Go.Shelf.Ren:=⟨λ|137=>112|217=>119|266=>121|n=>n,λ|9=>9|5=>5|3=>3|n=>n,λ|n=>n⟩
def Tryz.jj:Go.Shelf.Ren:=⟨λ|215=>104|n=>n,λ|3=>3|4=>4|n=>n,λ|n=>n⟩
def Tryz.er:Go.Shelf.Ren:=⟨λ|122=>73|215=>104|n=>n,λ|3=>3|4=>4|n=>n,λ|n=>n⟩
theorem Tryz.ir:Go.Proofs.Lays.n122 Tryz.prog Tryz.er:={
 mixed:=by kernel_rfl
 f122:=Tryz.func73.trans (congrArg some (by kernel_rfl))
 f215:=Tryz.func104.trans (congrArg some (by kernel_rfl))
 t3:=Tryz.underlying3
 a3:=Tryz.isAgg3
 z3:=Tryz.sizeOf3
 v3:=Tryz.zeroValue3
 t4:=Tryz.underlying4
 a4:=Tryz.isAgg4
 z4:=Tryz.sizeOf4
 v4:=Tryz.zeroValue4}
open Go.RowKit in
theorem Tryz.cmp_Compare_int(x y:Int)(w:World):
  Calls Tryz.prog 73 #[.int .i64 x, .int .i64 y] w λe w'=>e= .returned (.int .i64 (Lib.compareInt x y))/\w'=w:=Any.cmp_Compare_int Tryz.ir x y w
def Tryz.en:Go.Shelf.Ren:=⟨λ|217=>119|266=>121|n=>n,λ|9=>9|5=>5|3=>3|n=>n,λ|n=>n⟩
theorem Tryz.iv:Go.Proofs.Lays.n217 Tryz.prog Tryz.en:={
 mixed:=by kernel_rfl
 f217:=Tryz.func119.trans (congrArg some (by kernel_rfl))
 f266:=Tryz.func121.trans (congrArg some (by kernel_rfl))
 t3:=Tryz.underlying3
 a3:=Tryz.isAgg3
 z3:=Tryz.sizeOf3
 v3:=Tryz.zeroValue3
 t5:=Tryz.underlying5
 a5:=Tryz.isAgg5
 z5:=Tryz.sizeOf5
 v5:=Tryz.zeroValue5
 t9:=Tryz.underlying9
 a9:=Tryz.isAgg9
 z9:=Tryz.sizeOf9
 v9:=Tryz.zeroValue9}
open Go.RowKit Go.Lib in
theorem Tryz.stringslite_IndexByte(s:ByteArray)(c:Int)(w:World):
  Calls Tryz.prog 119 #[.string s, .int .u8 c] w λe w'=>e= .returned (.int .i64 (Lib.indexByte s.data.toList c.toNat.toUInt8))/\w'=w:=Any.stringslite_IndexByte Tryz.iv s c w
end Go.Proofs
end
section
namespace Go.Proofs.YteeafhlnofapaaaGreat
open Go.RowKit
set_option maxRecDepth 100000
theorem aJ:∀(l:List UInt8) (c:UInt8), -1<=Lib.indexByte l c/\Lib.indexByte l c<l.length\/Lib.indexByte l c= -1
 | [],_=> .inr rfl
 |b::l,c=>by
  unfold Lib.indexByte;rcases aJ l c with h|h
  ·split
   ·left;simp
   ·split
    ·exact .inr rfl
    ·left;rw[AM];omega
  ·rw[h];split
   ·left;simp
   ·right;rfl
theorem w5{n:Int}(h1: -9223372036854775808<=n)(h2:n<=9223372036854775807):Ex .i64 n:=Ek h1 h2
def R4(s:List UInt8)(c:Int):Option Int:=some (Lib.indexByte s c.toNat.toUInt8)
theorem mZ(a0:List UInt8)(a1 r:Int)(h:R4 a0 a1=some r):Cr Tryz.prog Cp 119 [.str a0, .int .u8 a1] (.int .i64 r):=yC (by kernel_rfl) λw vs rf hr=>by
 obtain⟨b,us,rfl,rfl,hb,hr⟩:=YB hr;obtain⟨us1,rfl,_,hr⟩:=T1 hr;obtain⟨rfl,rfl⟩:=Yk hr;refine(Tryz.stringslite_IndexByte b a1 w).mono ?_;rintro e w' ⟨rfl,rfl⟩;cases h;have hl:b.data.toList.length<=9223372036854775807:=by rw[Bp];exact hb
 exact⟨Mod.refl [] _,_,[],rfl, .int (by rcases aJ b.data.toList a1.toNat.toUInt8 with h|h<;>exact w5 (by omega) (by omega)) .nil,by simp⟩
theorem Su{P:Program}(w:World)(dT sT ty elem:TypeId)(k:Nat)(g o dLen dCap:Nat)(a:Addr)(sLen sCap:Nat)(cur:Array Value)(t:TypeId)(cs:List Value)
  (hu:P.underlying dT=some (.slice elem)) (hs:(P.info? elem).map (·.size)=some k)
  (hg:w.heap[g]?=some (.cells cur t (0,0))) (hn:cs.length=Nat.min sLen dLen*k)
  (C4:∀j v,cs[j]?=some v->w.cell? (a.add j)=some v) (Lv:o+cs.length<=cur.size) (h1:∀v∈cs,v.oneCell'=true):
  (Builtin.copy_ #[dT,sT] ty #[.slice (some ⟨g,o,none⟩) dLen dCap, .slice (some a) sLen sCap]).run P w=
   .ok (goInt (Nat.min sLen dLen)) (w.setRow g (cur.toList.take o++cs++cur.toList.drop (o+cs.length)).toArray):=by
 have hl:=run_loadCells_list (P:=P) w a cs C4;have Ib:=run_storeCells_at P g o t cs 0 cur w hg (by simpa using Lv) h1;cases hq:P.info? elem with
 |none=>simp[hq]at hs
 |some i=>
  have hi:i.size=k:=by simpa[hq]using hs
  rw[hn]at hl;simp[Builtin.copy_,run_underlying hu,Builtin.lenOf,Builtin.firstCells,sizeOf,typeInfo,hq,hi,hl,Ib]
theorem WQ{P:Program}(w:World){ops:Array Oper}{rest:List Oper}{o:Oper}{a:Act}{Q:Exit->Act->World->Prop}(MU:o.guard=none)(d s:Operand)(t t':TypeId)
  (ho:o.op= .call {callee:= .builtin .copy,args:= #[d,s],argTypes:= #[t,t']}) (v u:Value) (hd:a.eval d=v) (hs:a.eval s=u) {v':Value} {w':World}
  (hr:(Builtin.copy_ #[t,t'] o.type #[v,u]).run P w= .ok v' w') (h:wpList P ops Q rest (a.put o.dst v') w'):wpList P ops Q (o::rest) a w:=
 wpList_plain MU λ_ hK=>by unfold Oper.wp execOp;simp only[ho,resolve,invoke,builtin,Sem.run_bind,Sem.run_pure,Result.andThen_ok,List.map_toArray,List.map_cons,List.map_nil,hd,hs,hr];exact hK _ _ h
theorem cF{P:Program}{ops:Array Oper}{o:Oper}{a:Act}{w:World}{K:Act->World->Prop}{Q:Exit->Act->World->Prop}{E:Prop}
  (hg:o.guard=none) (d x:Operand) (dT sT:TypeId) (AH:o.op=Op.call {callee:=Callee.builtin Builtin.copy,args:= #[d,x],argTypes:= #[dT,sT]})
  (v u:Value) (hd:a.eval d=v) (hx:a.eval x=u) {v':Value} {w':World} (hr:(Builtin.copy_ #[dT,sT] o.type #[v,u]).run P w= .ok v' w') (hK:K (a.put o.dst v') w'):
  if Region.wanted o (yielded ops a.tmps)=true then Oper.wp P o a w K Q else E:=by
 have hw:Region.wanted o (yielded ops a.tmps)=true:=by simp[Region.wanted,hg]
 rw[if_pos hw];unfold Oper.wp;simp[execOp,AH,resolve,invoke,builtin,hd,hx,hr,Result.andThen];exact hK
def En(w:World)(el:TypeId)(k:Nat)(g cap:Nat)(C:Array Value)(n:Nat)(cs:List Value):Prop:=
 n<=cap/\cap<=maxLen/\w.heap[g]?=some (.cells C el (0,0))/\C.size=cap*k/\cs=C.toList.take (n*k)
def MK(w w':World)(el:TypeId)(k:Nat)(own:List Nat)(v:Value)(n:Nat)(cs:List Value):Prop:=
 ∃g cap C,v= .slice (some ⟨g,0,none⟩) n cap/\En w' el k g cap C n cs/\Mod own w w'/\(g∈own\/w.heap.size<=g)
def Ue(P:Program)(f:Nat)(el:TypeId)(k:Nat):Prop:=
 ∀(w:World) (v:Value) (n i:Nat) (cs:List Value) (own:List Nat) (vb vc m:Nat) (VC:Array Value) (vs:List Value),cs.length=n*k->
  ((n=0/\ ∃q,v= .slice q 0 0)\/ ∃g cap C,v= .slice (some ⟨g,0,none⟩) n cap/\En w el k g cap C n cs/\g∈own)->i<=n->En w el k vb vc VC m vs->(∀g∈own,vb≠g)->0<m->(n+m)*1000<=140737488355328->
  (∀u∈vs,u.oneCell'=true)->(∀u∈cs,u.oneCell'=true)->
  Calls P f #[v, .int .i64 i, .slice (some ⟨vb,0,none⟩) m vc] w λe w'=> ∃u,e= .returned u/\MK w w' el k own u (n+m) (cs.take (i*k)++vs++cs.drop (i*k))
theorem En.cell{w:World}{el:TypeId}{k g cap:Nat}{C:Array Value}{n:Nat}{cs:List Value}(h:En w el k g cap C n cs)(off j:Nat)(v:Value)(hj:(cs.drop off)[j]?=some v):w.cell? ((⟨g,off,none⟩:Addr).add j)=some v:=by
 obtain⟨_,_,h3,_,h5⟩:=h;rw[Addr.add_lit,DR h3];rw[List.getElem?_drop,h5,List.getElem?_take]at hj;split at hj
 ·simpa using hj
 ·cases hj
theorem En.len{w:World}{el:TypeId}{k g cap:Nat}{C:Array Value}{n:Nat}{cs:List Value}(h:En w el k g cap C n cs):cs.length=n*k:=by obtain⟨h1,_,_,h4,h5⟩:=h;have:=A3 k h1;rw[h5,AF,Bp];omega
theorem z7{α:Type}(cur cs vs:List α)(i m n:Nat)(hc:cs=cur.take n)(hi:i<=n)(hv:vs.length=m)(hn:n+m<=cur.length):
  let c1:=cur.take (i+m)++cs.drop i++cur.drop (i+m+(cs.drop i).length)
  (c1.take i++vs++c1.drop (i+vs.length)).take (n+m)=cs.take i++vs++cs.drop i:=by
 have Aq:cs.length=n:=by rw[hc,AF];omega
 have hd:(cs.drop i).length=n-i:=by rw[B1,Aq]
 intro c1;have e1:c1.take i=cs.take i:=by show(cur.take (i+m)++cs.drop i++_).take i=_;rw[List.append_assoc,List.take_append_of_le_length (by rw[AF];omega),List.take_take,hc,List.take_take];congr 1;omega
 have e2:c1.drop (i+vs.length)=cs.drop i++cur.drop (i+m+(cs.drop i).length):=by show(cur.take (i+m)++cs.drop i++_).drop _=_;rw[List.append_assoc,List.drop_append_of_le_length (by rw[AF,hv];omega),List.drop_eq_nil_of_le (by rw[AF,hv];omega),List.nil_append]
 rw[e1,e2];have l1:(cs.take i++vs++cs.drop i).length=n+m:=by simp only[AO,AF,hv,hd,Aq];omega
 rw[<-List.append_assoc,<-l1,List.take_left]
theorem two{α:Type}(zs cs vs:List α)(i m n:Nat)(cur:List α)(U0:cur=cs.take i++zs)(Aq:cs.length=n)(hi:i<=n)(hv:vs.length=m)(hz:n+m-i<=zs.length):
  let c1:=cur.take i++vs++cur.drop (i+vs.length)
  (c1.take (i+m)++cs.drop i++c1.drop (i+m+(cs.drop i).length)).take (n+m)=cs.take i++vs++cs.drop i:=by
 have ht:(cs.take i).length=i:=by rw[AF];omega
 intro c1;have e1:c1=cs.take i++vs++cur.drop (i+vs.length):=by show cur.take i++vs++cur.drop (i+vs.length)=_;rw[U0];congr 2;rw[List.take_append_of_le_length (by omega),List.take_take,Nat.min_self]
 have e2:c1.take (i+m)=cs.take i++vs:=by
  have l2:(cs.take i++vs).length=i+m:=by rw[AO,ht,hv]
  rw[e1,<-l2,List.take_left]
 rw[e2];have l1:(cs.take i++vs++cs.drop i).length=n+m:=by simp only[AO,ht,hv,B1,Aq];omega
 rw[<-l1,List.take_left]
theorem Xy(xs ys:List AV):Am (xs++ys)=Am xs++Am ys:=by simp[Am]
theorem cC{K:Nat}{xs:List AV}(h:∀y∈xs,y.cells.length=K){i:Nat}(hi:i<=xs.length):Am (xs.take i)=(Am xs).take (i*K)/\Am (xs.drop i)=(Am xs).drop (i*K):=by
 have l1:(Am (xs.take i)).length=i*K:=by rw[IQ _ λy hy=>h y (BA hy),AF,Nat.min_eq_left hi]
 have e:Am xs=Am (xs.take i)++Am (xs.drop i):=by rw[<-Xy,Bq]
 rw[e,<-l1,List.take_left,List.drop_left];exact⟨rfl,rfl⟩
theorem Cy.jz{w:World}{el K:Nat}{v:Value}{x:AV}{top:List Nat}(h:Cy w el K v x top []):∃xs cs,x= .sl xs/\0<K/\(∀y∈xs,y.cells.length=K)/\cs.length=xs.length*K/\Rd w cs (Am xs) []/\(∀u∈cs,u.oneCell'=true)/\
  ((xs=[]/\top=[]/\ ∃q,v= .slice q 0 0)\/ ∃g cap C,v= .slice (some ⟨g,0,none⟩) xs.length cap/\En w el K g cap C xs.length cs/\top=[g]):=by
 obtain⟨xs,rfl,h2,h3,⟨rfl,⟨a,hv⟩,rfl,_⟩|⟨g,cap,C,rfl,h6,h7,h8,h9,rfl,Er,DW⟩⟩:=h
 ·exact⟨[],[],rfl,h3,h2,by simp,by simpa[Am]using Rd.nil,by simp, .inl ⟨rfl,rfl,a,hv⟩⟩
 ·exact⟨xs,_,rfl,h3,h2,(En.len ⟨h6,h7,h8,h9,rfl⟩),DW,Er, .inr ⟨g,cap,C,rfl,⟨h6,h7,h8,h9,rfl⟩,rfl⟩⟩
theorem XB{P:Program}{w:World}{t el:TypeId}{v:Value}{x:AV}{rf hs:List Nat}(ha:Ah P t=false)(hl:AW P t=[t])(he:Cj P t=some el)(hf:BW P el=true)(h:MG P w t [true] v x rf hs):rf=[]/\Cy w el (P.cellsOf el) v x hs []:=by
 obtain⟨us,ys,h1,h2⟩:=h;rw[ha]at h1;simp only[B0,if_false]at h1;obtain⟨rfl,rfl⟩:=h1;rw[hl]at h2;cases h2 with
 |own q1 q2 q3 q4 q5=>
  cases q5;rw[he]at q2;cases q2;rcases q3 with⟨_,rfl⟩|⟨h,_⟩
  ·exact⟨rfl,by simpa using q4⟩
  ·rw[hf]at h;cases h
 |deep q1 q2 q3=>rw[he]at q2;cases q2;rw[hf]at q3;cases q3
 |rd q1=>have:=q1 rfl;rw[he]at this;cases this
def YW(P:Program)(sg:BE)(f:Nat)(t it el K:Nat):Bool:=
 match P.funcs[f]?,sg f with
 |some fn,some s=>(match s.bh,s.res,s.ft,s.lo with
  | [.va [true], .ro, .va [true]],[true],[],[]=>true
  |_,_,_,_=>false)&&fn.body.isSome&& !(fn.name== "runtime.NumGoroutine")&&fn.params.toList==[t,it,t]&&fn.resultTypes.toList==[t]&&fn.nfree==0&& !Ah P t&&AW P t==[t]&&Cj P t==some el&&BW P el&&P.cellsOf el==K&&FJ P t [true]&&fn.params.size==3
 |_,_=>false
def YP(P:Program)(sg:BE)(f:Nat)(r:List AV):Bool:=match P.funcs[f]?,sg f with
 |some fn,some s=>JI P fn s (.sl r)
 |_,_=>false
theorem zU{f t it el K:Nat}(hk:YW Tryz.prog Cp f t it el K=true)(Ei:∀r,YP Tryz.prog Cp f r=true)(LA:Ue Tryz.prog f el K)(xs ys:List AV)(i:Int)(h0:0<=i)(h1:i<=xs.length)(hy:ys≠ [])(hb:(xs.length+ys.length)*1000<=140737488355328):
  Cr Tryz.prog Cp f [.sl xs, .int .i64 i, .sl ys] (.sl (xs.take i.toNat++ys++xs.drop i.toNat)):=by
 unfold YW at hk;split at hk
 ·rename_i fn s hf hs;simp only[Ad,Bh,AB]at hk;obtain⟨⟨⟨⟨⟨⟨⟨⟨⟨⟨⟨⟨g1,g2⟩,g3⟩,g4⟩,g5⟩,g6⟩,g7⟩,g8⟩,g9⟩,g10⟩,g11⟩,g12⟩,g13⟩:=hk;obtain⟨hm,hr,CV,BN⟩:s.bh=[.va [true], .ro, .va [true]]/\s.res=[true]/\s.ft=[]/\s.lo=[]:=by
   split at g1
   ·rename_i a b c d;exact⟨a,b,c,d⟩
   ·cases g1
  unfold Cr;rw[if_pos (My f s hs)];refine⟨s,hs,fn,hf,g2,g3,by have:=Ei (xs.take i.toNat++ys++xs.drop i.toNat);unfold YP at this;rw[hf,hs]at this;exact this,by simp[g6,g13],by simp[CV],λw vs rf lf A1 Ai hd _ BT DO=> ?_⟩;rw[g4,CV,AE,hm,BN]at Ai;cases Ai with
  |lent h _ _ _=>cases h
  | @cons _ _ _ _ v1 vs1 _ _ f1 k1 rf1 lf1 Bu a1 Ai=>
   cases Ai with
   |lent h _ _ _=>cases h
   | @cons _ _ _ _ v2 vs2 _ _ f2 k2 rf2 lf2 AQ a2 Ai=>
    cases Ai with
    |lent h _ _ _=>cases h
    | @cons _ _ _ _ v3 vs3 _ _ f3 k3 rf3 lf3 GZ a3 Ai=>
     cases Ai;obtain⟨rfl,r1⟩:=XB g7 g8 g9 g10 a1;obtain⟨rfl,r3⟩:=XB g7 g8 g9 g10 a3;obtain⟨a2,rfl⟩:Rd w [v2] [AV.int .i64 i] f2/\k2=[]:=a2;obtain⟨us,rfl2,hI,a2⟩:=T1 a2;obtain⟨rfl,rfl⟩:=Yk a2;cases rfl2;obtain⟨xs',cs,e1,p0,p1,p2,p3,p4,p5⟩:=r1.jz;cases e1;obtain⟨ys',cv,e2,_,q1,q2,q3,q4,q5⟩:=r3.jz;cases e2;rw[g11]at p0 p1 p2 p5 q1 q2 q5;obtain⟨vb,vc,VC,rfl,hv,rfl⟩:∃g cap C,v3= .slice (some ⟨g,0,none⟩) ys.length cap/\En w el K g cap C ys.length cv/\k3=[g]:=by
      rcases q5 with⟨h,_⟩|h
      ·exact absurd h hy
      ·exact h
     have lA:k1++ [vb]=k1++([]++([vb]++ [])):=by simp
     have Kc:∀g∈k1,vb≠g:=by intro g hg e;subst e;have:=(List.nodup_append.1 BT).2.2 vb hg vb (by simp);exact this rfl
     have mI:0<ys.length:=by cases ys with|nil=>exact absurd rfl hy|cons=>simp
     have hc:=LA w v1 xs.length i.toNat cs k1 vb vc ys.length VC cv p2 (by
      rcases p5 with⟨rfl,_,q,rfl⟩|⟨g,cap,C,rfl,h,rfl⟩
      ·exact .inl ⟨rfl,q,rfl⟩
      ·exact .inr ⟨g,cap,C,rfl,h,by simp⟩) (by omega) hv Kc mI hb q4 p4
     rw[show((i.toNat:Nat):Int)=i by omega]at hc;refine hc.mono ?_;rintro e w' ⟨u,rfl,g,cap,C,rfl,⟨z1,z2,z3,z4,z5⟩,B4,EB⟩;have Hh:∀{us:List Value} {zs:List AV},Rd w us zs []->Rd w' us zs []:=λh=>h.frame (by simp);have cut:∀o n,Rd w ((cs.drop o).take n) (((Am xs).drop o).take n) []:=λo n=>by
      obtain⟨gg,k1,k2⟩:=p3.piece o n;have:gg=[]:=List.eq_nil_iff_forall_not_mem.2 λb hb=>by simpa using k1 b hb
      rw[this]at k2;exact k2
     obtain⟨t1,t2⟩:=cC p1 (i:=i.toNat) (by omega);have hmul:=A3 K (show i.toNat<=xs.length by omega);have CQ:Rd w' (cs.take (i.toNat*K)++cv++cs.drop (i.toNat*K)) (Am (xs.take i.toNat++ys++xs.drop i.toNat)) []:=by rw[Xy,Xy,t1,t2];have c1:=cut 0 (i.toNat*K);have c2:=cut (i.toNat*K) (cs.length-i.toNat*K);rw[List.drop_zero,List.drop_zero]at c1;rw[List.take_of_length_le (by simp),List.take_of_length_le (by rw[B1,IQ _ p1,p2];exact Ar _)]at c2;exact(((Hh c1).app (Hh q3)).app (Hh c2))
     have hlen:(xs.take i.toNat++ys++xs.drop i.toNat).length=xs.length+ys.length:=by simp only[AO,AF,B1];omega
     have Bf:Cy w' el K (.slice (some ⟨g,0,none⟩) (xs.length+ys.length) cap) (.sl (xs.take i.toNat++ys++xs.drop i.toNat)) [g] []:=by
      refine⟨_,rfl,λy hy=> ?_,p0, .inr ⟨g,cap,C,by rw[hlen],by rw[hlen];exact z1,z2,z3,z4,rfl,?_,?_⟩⟩
      ·rcases Ae.1 hy with hy|hy
       ·rcases Ae.1 hy with hy|hy
        ·exact p1 y (BA hy)
        ·exact q1 y hy
       ·exact p1 y (BP hy)
      ·rw[hlen,<-z5];intro u hu;rcases Ae.1 hu with hu|hu
       ·rcases Ae.1 hu with hu|hu
        ·exact p4 u (BA hu)
        ·exact q4 u hu
       ·exact p4 u (BP hu)
      ·rw[hlen,<-z5];exact CQ
     refine⟨_,rfl,⟨⟨_,[],[],[g],[],[],rfl,?_,?_,by simp,?_,by simp⟩,B4.weaken λb hb=> .inl (by simp[hb])⟩⟩
     ·rw[g5];show Ee Tryz.prog w' t s.res _ _ [] [g];unfold Ee;rw[hr,if_pos g12];refine⟨[.slice (some ⟨g,0,none⟩) (xs.length+ys.length) cap],[.sl (xs.take i.toNat++ys++xs.drop i.toNat)],by rw[g7];simp,?_⟩;rw[g8];have:=Cd.own (P:=Tryz.prog) (t:=t) (ts:=[]) (fl:=[true]) (us:=[]) (ys:=[]) (rf:=[]) (hs:=[]) rfl g9 (.inl ⟨g10,rfl⟩) (by rw[g11];exact Bf) .nil;simpa using this
     ·rw[g4,CV,AE,hm];exact .va rfl (.ro rfl (.va rfl .nil))
     ·intro b hb;simp only[AE,List.mem_singleton]at hb;subst hb;exact⟨by rcases EB with h|h;exact .inl (by simp[h]);exact .inr h,Dy z3⟩
 ·cases hk
noncomputable def TK{α:Type}(xs:List α)(i:Int)(ys:List α):Option (List α):=req (0<=i/\i<=xs.length/\0<ys.length/\(xs.length+ys.length)*1000<=140737488355328) (some (xs.take i.toNat++ys++xs.drop i.toNat))
theorem zT{f t it el K:Nat}(hk:YW Tryz.prog Cp f t it el K=true)(Ei:∀r,YP Tryz.prog Cp f r=true)(LA:Ue Tryz.prog f el K){α:Type}{av:α->AV}{xs ys r:List α}{i:Int}(h:TK xs i ys=some r):
  Cr Tryz.prog Cp f [.sl (xs.map av), .int .i64 i, .sl (ys.map av)] (.sl (r.map av)):=by
 obtain⟨⟨h0,h1,h2,h3⟩,h⟩:=GG h;cases h;have:=zU hk Ei LA (xs.map av) (ys.map av) i h0 (by simpa using h1) (by cases ys with|nil=>simp at h2|cons=>simp) (by simpa using h3);simpa[List.map_append,List.map_take,List.map_drop]using this
theorem u0(l:List DT){n i:Nat}(hi:i<=n):BS n l=BS i l++BS (n-i) l:=by rw[<-TA];congr 1;omega
theorem DC.cut{w:World}{xs:List AV}{l:List DT}{K:Nat}{cs:List Value}{N:List Nat}(hK:l.length=K)(h:DC w (BS xs.length l) cs (Am xs) N)(hx:∀y∈xs,y.cells.length=K){i:Nat}(hi:i<=xs.length):
  ∃N1 N2,N=N1++N2/\DC w (BS i l) (cs.take (i*K)) (Am (xs.take i)) N1/\DC w (BS (xs.length-i) l) (cs.drop (i*K)) (Am (xs.drop i)) N2:=by
 have hlen:=h.len;have t1:=cC hx hi;have hmul:=A3 K hi;rw[u0 l hi,<-Bq (i*K) cs,<-Bq (i*K) (Am xs)]at h;rw[Mg,hK]at hlen;obtain⟨N1,N2,rfl,h1,h2⟩:=DC.c8 (by rw[Mg,hK,AF];omega) (by rw[Mg,hK,AF];omega) h;exact⟨N1,N2,rfl,by rw[t1.1];exact h1,by rw[t1.2];exact h2⟩
class I8(P:Program)(el K:Nat)(st it ov:outParam Nat):Prop where
 u:P.underlying st=some (.slice el)
 v:P.underlying it=some (.int .i64)
 i:∃i z,P.info? el=some i/\i.size=K/\i.zero=some z/\z.cells.size=K/\i.bytes<=1000/\0<K
 o:∃fn bt,P.funcs[ov]?=some fn/\(fn.name== "runtime.NumGoroutine")=false/\fn.body.isNone=true/\Extern.findNext fn=none/\Extern.find fn=some (Extern.SlicesOverlaps.overlaps #[st,st] #[bt])
def gH(P:Program)(el K:Nat):Bool:=match P.info? el with
 |some i=>(match i.zero with|some z=>i.size==K&&z.cells.size==K&&decide (i.bytes<=1000)&&decide (0<K)|none=>false)
 |none=>false
theorem zB{P:Program}{el K:Nat}(h:gH P el K=true):∃i z,P.info? el=some i/\i.size=K/\i.zero=some z/\z.cells.size=K/\i.bytes<=1000/\0<K:=by
 unfold gH at h;split at h
 ·rename_i i hi;split at h
  ·rename_i z hz;simp only[Ad,AB,Au]at h;exact⟨i,z,hi,h.1.1.1,hz,h.1.1.2,h.1.2,h.2⟩
  ·cases h
 ·cases h
def iH(P:Program)(f el K:Nat):Prop:= ∀(w:World) (v:Value) (n:Nat) (cs:List Value) (own:List Nat) (vb vc m:Nat) (VC:Array Value) (vs:List Value),cs.length=n*K->
 ((n=0/\ ∃q,v= .slice q 0 0)\/ ∃g cap C,v= .slice (some ⟨g,0,none⟩) n cap/\En w el K g cap C n cs/\g∈own)->En w el K vb vc VC m vs->0<m->(n+m)*1000<=140737488355328->(∀u∈vs,u.oneCell'=true)->
 Calls P f #[v, .int .i64 n, .slice (some ⟨vb,0,none⟩) m vc] w λe w'=> ∃u,e= .returned u/\MK w w' el K own u (n+m) (cs++vs)
def iK(P:Program)(f el K:Nat):Prop:= ∀(w:World) (n i g cap:Nat) (C:Array Value) (cs:List Value) (own:List Nat) (vb vc m:Nat) (VC:Array Value) (vs:List Value),En w el K g cap C n cs->i<n->cap<n+m->En w el K vb vc VC m vs->0<m->(n+m)*1000<=140737488355328->
 (∀u∈vs,u.oneCell'=true)->(∀u∈cs,u.oneCell'=true)->
 Calls P f #[.slice (some ⟨g,0,none⟩) n cap, .int .i64 i, .slice (some ⟨vb,0,none⟩) m vc] w λe w'=> ∃u,e= .returned u/\MK w w' el K own u (n+m) (cs.take (i*K)++vs++cs.drop (i*K))
def iI(P:Program)(f el K:Nat):Prop:= ∀(w:World) (n i g cap:Nat) (C:Array Value) (cs:List Value) (own:List Nat) (vb vc m:Nat) (VC:Array Value) (vs:List Value),En w el K g cap C n cs->g∈own->i<n->n+m<=cap->vb≠g->En w el K vb vc VC m vs->0<m->
 (∀u∈vs,u.oneCell'=true)->(∀u∈cs,u.oneCell'=true)->
 Calls P f #[.slice (some ⟨g,0,none⟩) n cap, .int .i64 i, .slice (some ⟨vb,0,none⟩) m vc] w λe w'=> ∃u,e= .returned u/\MK w w' el K own u (n+m) (cs.take (i*K)++vs++cs.drop (i*K))
theorem xF{P:Program}{f el K:Nat}(h1:iH P f el K)(h2:iK P f el K)(h3:iI P f el K):Ue P f el K:=by
 intro w v n i cs own vb vc m VC vs Aq AY B8 hv MZ hm hb FC FB;by_cases he:i=n
 ·subst he;refine(h1 w v i cs own vb vc m VC vs Aq AY hv hm hb FC).mono ?_;rintro e w' ⟨u,rfl,h⟩;refine⟨u,rfl,?_⟩;rw[List.take_of_length_le (by omega),List.drop_eq_nil_of_le (by omega),AE];exact h
 ·rcases AY with⟨rfl,_⟩|⟨g,cap,C,rfl,hr,hg⟩
  ·omega
  ·by_cases hc:n+m<=cap
   ·exact h3 w n i g cap C cs own vb vc m VC vs hr hg (by omega) hc (MZ g hg) hv hm FC FB
   ·exact h2 w n i g cap C cs own vb vc m VC vs hr (by omega) (by omega) hv hm hb FC FB
theorem uY{P:Program}{el K st it ov:Nat}[hI:I8 P el K st it ov]{w:World}{v:Value}{n:Nat}{cs:List Value}{own:List Nat}{vb vc m:Nat}{VC:Array Value}{vs:List Value}(Aq:cs.length=n*K)
  (AY:(n=0/\ ∃q,v= .slice q 0 0)\/ ∃g cap C,v= .slice (some ⟨g,0,none⟩) n cap/\En w el K g cap C n cs/\g∈own) (hv:En w el K vb vc VC m vs) (hm:0<m) (hb:(n+m)*1000<=140737488355328) (FC:∀u∈vs,u.oneCell'=true):
  ∃v' w1,(Builtin.append_ #[st,st] st #[v, .slice (some ⟨vb,0,none⟩) m vc]).run P w= .ok v' w1/\MK w w1 el K own v' (n+m) (cs++vs):=by
 obtain⟨i0,z0,hi,hs,hz,C5,E6,hK⟩:=hI.i;have C4:Src w i0.size (some ⟨vb,0,none⟩) m vs:= .inr ⟨_,rfl,by rw[hs];exact hv.len,λj u hj=>hv.cell 0 j u (by simpa using hj),FC⟩;obtain⟨v',w1,hr,AJ⟩:=TN (P:=P) w st st el i0 z0 hI.u hi hz (by rw[C5,hs]) (by omega) (λb=>b∈own) v n cs (by rw[hs];exact Aq)
  (by
   rcases AY with h|⟨g,cap,C,rfl,⟨h1,h2,h3,h4,h5⟩,h6⟩
   ·exact .inl h
   ·exact .inr ⟨g,cap,C,rfl,h1,h2,h3,by rw[hs];exact h4,by rw[hs];exact h5,h6⟩)
  (some ⟨vb,0,none⟩) m vc vs C4 (by simp only[maxLen];omega) (by have:=Nat.mul_le_mul_left (n+m) E6;omega)
 refine⟨v',w1,hr,?_⟩;rcases AJ with⟨_,_,h⟩|⟨g,cap,C,rfl,h1,h2,h3,h4,h5,h6,h7⟩
 ·omega
 ·refine⟨g,cap,C,rfl,⟨h1,h2,h3,by rw[hs]at h4;exact h4,by rw[hs]at h5;exact h5.symm⟩,?_,h7.symm.imp id λh=>by omega⟩;refine⟨h6.os,h6.tape,h6.output,h6.size,λb hb hn=>h6.block b hb λe=> ?_⟩;cases e;rcases h7 with h7|h7
  ·omega
  ·exact hn h7
theorem wF{P:Program}{el K st it ov:Nat}[hI:I8 P el K st it ov]{w:World}{n i g cap:Nat}{C:Array Value}{cs:List Value}(own:List Nat){vb vc m:Nat}{VC:Array Value}{vs:List Value}(AY:En w el K g cap C n cs)(B8:i<n)(BD:cap<n+m)
  (hv:En w el K vb vc VC m vs) (hm:0<m) (hb:(n+m)*1000<=140737488355328) (FC:∀u∈vs,u.oneCell'=true) (FB:∀u∈cs,u.oneCell'=true):
  ∃(G:Nat) (ROW ROW2 ROW3:Array Value),n+m<=G/\G<=9223372036854775807/\
   (∀ty,(Builtin.append_ #[st,it] ty #[.slice (some ⟨g,0,none⟩) i cap, .int .i64 ((n:Int)+(m:Int)-(i:Int))]).run P w= .ok (.slice (some ⟨w.heap.size,0,none⟩) (n+m) G) (w.drew.alloc (.cells ROW el)))/\
   (∀(W:World),W.heap=(w.alloc (.cells ROW el)).heap-> ∀ty dc,(Builtin.copy_ #[st,st] ty #[.slice (some ⟨w.heap.size,i*K,none⟩) (n+m-i) dc, .slice (some ⟨vb,0,none⟩) m vc]).run P W= .ok (goInt m) (W.setRow w.heap.size ROW2))/\
   (∀(W:World),W.heap=((w.alloc (.cells ROW el)).setRow w.heap.size ROW2).heap-> ∀ty dc sc,(Builtin.copy_ #[st,st] ty #[.slice (some ⟨w.heap.size,(i+m)*K,none⟩) (n+m-(i+m)) dc, .slice (some ⟨g,i*K,none⟩) (n-i) sc]).run P W= .ok (goInt ((n-i:Nat):Int)) (W.setRow w.heap.size ROW3))/\
   (∀W:World,W.os=w.os->W.tape=w.tape->W.output=w.output->W.heap=(((w.alloc (.cells ROW el)).setRow w.heap.size ROW2).setRow w.heap.size ROW3).heap->MK w W el K own (.slice (some ⟨w.heap.size,0,none⟩) (n+m) G) (n+m) (cs.take (i*K)++vs++cs.drop (i*K)))/\
   ((w.alloc (.cells ROW el)).drew).heap=(w.alloc (.cells ROW el)).heap/\(((w.alloc (.cells ROW el)).drew.setRow w.heap.size ROW2).drew).heap=((w.alloc (.cells ROW el)).setRow w.heap.size ROW2).heap:=by
 obtain⟨i0,z0,hi,hs,hz,C5,E6,hK⟩:=hI.i;have Aq:=AY.len;have DH:=hv.len;have US:=AY;obtain⟨LL,HH,hg,Ld,Bb⟩:=US;have Vh:g<w.heap.size:=Dy hg;have hvw:vb<w.heap.size:=Dy hv.2.2.1;have BB:(P.info? el).map (·.size)=some K:=by rw[hi];simp[hs]
 have Zr:i+(n+m-i)=n+m:=by omega
 have Rz:(n+m)*i0.bytes<=140737488355328:=Nat.le_trans (Nat.mul_le_mul_left _ E6) hb;have Kd:(n+m-i)*i0.bytes<=140737488355328:=Nat.le_trans (A3 _ (by omega)) Rz;have Vk:i*K<=n*K:=A3 _ (by omega);have hold:(Builtin.firstCells i0.size i (.slice (some ⟨g,0,none⟩) i cap)).run P w.drew= .ok (cs.take (i*K)).toArray w.drew:=by
  rw[hs];exact run_firstCells_some w.drew K i ⟨g,0,none⟩ i cap (cs.take (i*K)) (by rw[AF];omega) (λj v hj=>by
   rw[List.getElem?_take]at hj;split at hj
   ·exact AY.cell 0 j v (by simpa using hj)
   ·cases hj)
 have MY:∀ty,(Builtin.append_ #[st,it] ty #[.slice (some ⟨g,0,none⟩) i cap, .int .i64 ((n:Int)+(m:Int)-(i:Int))]).run P w=
   .ok (.slice (some ⟨w.heap.size,0,none⟩) (n+m) (grownCap w (n+m) cap el)) (w.drew.alloc (.cells ((cs.take (i*K)).toArray++Builtin.zeroCells z0.cells (n+m-i)++Builtin.zeroCells z0.cells (grownCap w (n+m) cap el-(n+m))) el)):=λty=>by
  have h:=Lib.run_append_grow_zeros w st it ty el i0 z0 .i64 .i64 hI.u hI.v hi hz (some ⟨g,0,none⟩) i cap (cs.take (i*K)) hold (n+m-i) (by omega) (by omega) (by omega) (by omega) (by omega) (by rw[Zr];exact growslice_fits BD Rz);rw[Zr]at h;rw[show(n:Int)+(m:Int)-(i:Int)=((n+m-i:Nat):Int) by omega];exact h
 obtain⟨G,hG⟩:∃G,G=grownCap w (n+m) cap el:=⟨_,rfl⟩
 obtain⟨ROW,Li⟩:∃ROW:Array Value,ROW=(cs.take (i*K)).toArray++Builtin.zeroCells z0.cells (n+m-i)++Builtin.zeroCells z0.cells (G-(n+m)):=⟨_,rfl⟩
 have Rp:n+m<=G:=by rw[hG];exact grownCap_ge w _ _ _
 have OD:G<=maxLen:=by rw[hG];exact grownCap_le_maxLen w (n+m) cap el (by unfold maxLen;omega)
 rw[<-hG]at MY;rw[<-Li]at MY;have e1:(i+m)*K=i*K+m*K:=Nat.add_mul ..;have e2:(n+m)*K=n*K+m*K:=Nat.add_mul ..;have e3:(n+m-i)*K=n*K+m*K-i*K:=by rw[Nat.sub_mul,e2]
 have e4:(n-i)*K=n*K-i*K:=Nat.sub_mul ..;have e5:(G-(n+m))*K=G*K-(n*K+m*K):=by rw[Nat.sub_mul,e2]
 have e6:n*K+m*K<=G*K:=by rw[<-e2];exact A3 _ Rp
 have jG:ROW.size=G*K:=by rw[Li];simp only[Array.size_append,List.size_toArray,AF,size_zeroCells,C5];omega
 obtain⟨ROW2,OI⟩:∃R:Array Value,R=(ROW.toList.take (i*K)++vs++ROW.toList.drop (i*K+vs.length)).toArray:=⟨_,rfl⟩
 obtain⟨ROW3,UF⟩:∃R:Array Value,R=(ROW2.toList.take ((i+m)*K)++cs.drop (i*K)++ROW2.toList.drop ((i+m)*K+(cs.drop (i*K)).length)).toArray:=⟨_,rfl⟩
 have UE:ROW2.size=G*K:=by rw[OI];simp only[List.size_toArray,AO,AF,B1,Bp];omega
 have UG:ROW3.size=G*K:=by rw[UF];simp only[List.size_toArray,AO,AF,B1,Bp];omega
 obtain⟨N,hN⟩:∃N,N=w.heap.size:=⟨_,rfl⟩
 have hA:(w.alloc (.cells ROW el)).heap[N]?=some (.cells ROW el (0,0)):=by rw[hN];exact heap_alloc_new w _
 have hO:∀k,k<N->(w.alloc (.cells ROW el)).heap[k]?=w.heap[k]?:=λk hk=>Below.heap_alloc w _ k (by omega);have hB:((w.alloc (.cells ROW el)).setRow N ROW2).heap[N]?=some (.cells ROW2 el (0,0)):=setRow_heap _ _ _ _ _ _ hA;have Za:∀k,k<N->((w.alloc (.cells ROW el)).setRow N ROW2).heap[k]?=w.heap[k]?:=λk hk=>by rw[setRow_other _ _ _ _ (by omega)];exact hO k hk
 rw[<-hN]at MY ⊢;refine⟨G,ROW,ROW2,ROW3,Rp,OD,MY,λW hW ty dc=> ?_,λW hW ty dc sc=> ?_,λW w1 w2 w3 hW=> ?_,rfl,rfl⟩
 ·have h:=Su (P:=P) W st st ty el K N (i*K) (n+m-i) dc ⟨vb,0,none⟩ m vc ROW el vs hI.u BB (by rw[hW];exact hA) (by rw[DH,show Nat.min m (n+m-i)=m from Nat.min_eq_left (by omega)])
   (λj v hj=>by rw[World.cell?_of_block (w:=w) (by rw[Addr.add_lit,hW];exact hO vb (by omega))];exact hv.cell 0 j v (by simpa using hj)) (by rw[jG,DH];omega) FC
  rw[show Nat.min m (n+m-i)=m from Nat.min_eq_left (by omega),<-OI]at h;exact h
 ·have h:=Su (P:=P) W st st ty el K N ((i+m)*K) (n+m-(i+m)) dc ⟨g,i*K,none⟩ (n-i) sc ROW2 el (cs.drop (i*K)) hI.u BB (by rw[hW];exact hB) (by rw[B1,Aq,show Nat.min (n-i) (n+m-(i+m))=n-i from Nat.min_eq_left (by omega)];omega)
   (λj v hj=>by rw[World.cell?_of_block (w:=w) (by rw[Addr.add_lit,hW];exact Za g (by omega))];exact AY.cell (i*K) j v hj) (by rw[UE,B1,Aq];omega) (λv hv=>FB v (BP hv))
  rw[show Nat.min (n-i) (n+m-(i+m))=n-i from Nat.min_eq_left (by omega),<-UF]at h;exact h
 ·refine⟨N,G,ROW3,rfl,⟨Rp,OD,by rw[hW];exact setRow_heap _ _ _ _ _ _ hB,UG,?_⟩,⟨w1,w2,w3,by rw[hW];simp,λk hk _=>by rw[hW,setRow_other _ _ _ _ (by omega)];exact Za k (by omega)⟩, .inr (by omega)⟩;have h:=two ((Builtin.zeroCells z0.cells (n+m-i)).toList++(Builtin.zeroCells z0.cells (G-(n+m))).toList) cs vs (i*K) (m*K) (n*K) ROW.toList (by rw[Li];simp) Aq Vk DH (by simp only[AO,Bp,size_zeroCells,C5];omega);rw[UF,OI,Nat.add_mul n m,Nat.add_mul i m];exact h.symm
theorem wP{P:Program}{el K st it ov:Nat}[hI:I8 P el K st it ov]{w:World}{n i g cap:Nat}{C:Array Value}{cs:List Value}{own:List Nat}{vb vc m:Nat}{VC:Array Value}{vs:List Value}(AY:En w el K g cap C n cs)(EB:g∈own)(B8:i<n)(BD:n+m<=cap)(MZ:vb≠g)
  (hv:En w el K vb vc VC m vs) (hm:0<m) (FC:∀u∈vs,u.oneCell'=true) (FB:∀u∈cs,u.oneCell'=true):
  ∃C1 C2:Array Value,(∀lb cb,(callFunc ov #[.slice (some ⟨vb,0,none⟩) m vc, .slice (some ⟨g,(i+m)*K,none⟩) lb cb]).run P w= .ok (.value (.bool false)) w)/\
   (∀(W:World),W.heap=w.heap-> ∀ty dc sc,(Builtin.copy_ #[st,st] ty #[.slice (some ⟨g,(i+m)*K,none⟩) (n+m-(i+m)) dc, .slice (some ⟨g,i*K,none⟩) (n+m-i) sc]).run P W= .ok (goInt ((n-i:Nat):Int)) (W.setRow g C1))/\
   (∀(W:World),W.heap=(w.setRow g C1).heap-> ∀ty dc,(Builtin.copy_ #[st,st] ty #[.slice (some ⟨g,i*K,none⟩) (n+m-i) dc, .slice (some ⟨vb,0,none⟩) m vc]).run P W= .ok (goInt m) (W.setRow g C2))/\
   (∀W:World,W.os=w.os->W.tape=w.tape->W.output=w.output->W.heap=((w.setRow g C1).setRow g C2).heap->MK w W el K own (.slice (some ⟨g,0,none⟩) (n+m) cap) (n+m) (cs.take (i*K)++vs++cs.drop (i*K)))/\
   (w.drew).heap=w.heap/\(w.drew.setRow g C1).heap=(w.setRow g C1).heap:=by
 obtain⟨i0,z0,hi,hs,hz,C5,E6,hK⟩:=hI.i;obtain⟨fn,bt,f1,f2,f3,f4,f5⟩:=hI.o;have Aq:=AY.len;have DH:=hv.len;have US:=AY;obtain⟨LL,HH,hg,Ld,Bb⟩:=US;have Vh:g<w.heap.size:=Dy hg;have BB:(P.info? el).map (·.size)=some K:=by rw[hi];simp[hs]
 have PG:=hv.2.2.1;have Vk:i*K<=n*K:=A3 _ (by omega);have e1:(i+m)*K=i*K+m*K:=Nat.add_mul ..;have e2:(n+m)*K=n*K+m*K:=Nat.add_mul ..;have e3:(n+m-i)*K=n*K+m*K-i*K:=by rw[Nat.sub_mul,e2]
 have e4:(n-i)*K=n*K-i*K:=Nat.sub_mul ..;have e6:n*K+m*K<=cap*K:=by rw[<-e2];exact A3 _ BD
 have e7:0<cap*K:=Nat.mul_pos (by omega) hK;obtain⟨C1,Ka⟩:∃R:Array Value,R=(C.toList.take ((i+m)*K)++cs.drop (i*K)++C.toList.drop ((i+m)*K+(cs.drop (i*K)).length)).toArray:=⟨_,rfl⟩
 obtain⟨C2,Uv⟩:∃R:Array Value,R=(C1.toList.take (i*K)++vs++C1.toList.drop (i*K+vs.length)).toArray:=⟨_,rfl⟩
 have Uu:C1.size=cap*K:=by rw[Ka];simp only[List.size_toArray,AO,AF,B1,Bp];omega
 have Uw:C2.size=cap*K:=by rw[Uv];simp only[List.size_toArray,AO,AF,B1,Bp];omega
 have hB:(w.setRow g C1).heap[g]?=some (.cells C1 el (0,0)):=setRow_heap _ _ _ _ _ _ hg;have Jq:Nat.min (n+m-i) (n+m-(i+m))=n-i:=by rw[show Nat.min (n+m-i) (n+m-(i+m))=n+m-(i+m)from Nat.min_eq_right (by omega)];omega
 refine⟨C1,C2,λlb cb=> ?_,λW hW ty dc sc=> ?_,λW hW ty dc=> ?_,λW w1 w2 w3 hW=> ?_,rfl,rfl⟩
 ·rw[run_callFunc_extern f1 f2 f3 f4 f5,Lib.run_overlaps_apart w st bt el hI.u K (λw=>by simp[Go.sizeOf,typeInfo,hi,hs]) ⟨vb,0,none⟩ ⟨g,(i+m)*K,none⟩ m vc lb cb MZ el el VC.size C.size (by simp[World.shape?,PG]) (by simp[World.shape?,hg]) (by omega) (by simp[World.frozen?,PG]) (by simp[World.frozen?,PG])];rfl
 ·have h:=Su (P:=P) W st st ty el K g ((i+m)*K) (n+m-(i+m)) dc ⟨g,i*K,none⟩ (n+m-i) sc C el (cs.drop (i*K)) hI.u BB (by rw[hW];exact hg) (by rw[B1,Aq,Jq];omega)
   (λj v hj=>by rw[World.cell?_of_block (w:=w) (by rw[hW])];exact AY.cell (i*K) j v hj) (by rw[Ld,B1,Aq];omega) (λv hv=>FB v (BP hv))
  rw[Jq,<-Ka]at h;exact h
 ·have h:=Su (P:=P) W st st ty el K g (i*K) (n+m-i) dc ⟨vb,0,none⟩ m vc C1 el vs hI.u BB (by rw[hW];exact hB) (by rw[DH,show Nat.min m (n+m-i)=m from Nat.min_eq_left (by omega)])
   (λj v hj=>by rw[World.cell?_of_block (w:=w) (by rw[Addr.add_lit,hW];exact setRow_other _ _ _ _ (by simpa using MZ))];exact hv.cell 0 j v (by simpa using hj)) (by rw[Uu,DH];omega) FC
  rw[show Nat.min m (n+m-i)=m from Nat.min_eq_left (by omega),<-Uv]at h;exact h
 ·have no:∀k,¬k∈own->k≠g:=λk hn e=>hn (e▸EB);refine⟨g,cap,C2,rfl,⟨BD,HH,by rw[hW];exact setRow_heap _ _ _ _ _ _ hB,Uw,?_⟩,⟨w1,w2,w3,by rw[hW];simp,λk hk hn=>by rw[hW,setRow_other _ _ _ _ (by first|exact no k hn|exact(no k hn).symm),setRow_other _ _ _ _ (by first|exact no k hn|exact(no k hn).symm)]⟩, .inl EB⟩;have h:=z7 C.toList cs vs (i*K) (m*K) (n*K) Bb Vk DH (by rw[Bp,Ld];omega);rw[Uv,Ka,Nat.add_mul n m,Nat.add_mul i m];exact h.symm
instance inf_Write:I8 Tryz.prog 65 3 27 3 84:=⟨Tryz.underlying27,Tryz.underlying3,zB (by kernel_rfl),_,4,Tryz.func84,by kernel_rfl,by kernel_rfl,by kernel_rfl,by kernel_rfl⟩
set_option maxHeartbeats 16000000 in
theorem wO:iH Tryz.prog 53 65 3:=by
 refine ?_<;>(
  intro w v n cs own vb vc m VC vs Aq AY hv hm hb FC;obtain⟨v',w1,hr,fin⟩:=uY (P:=Tryz.prog) Aq AY hv hm hb FC;have RY: ¬((m:Int)=0):=by omega
  clear hv FC Aq;rcases AY with⟨rfl,_|⟨qb,qo,qs⟩,rfl⟩|⟨g,cap,C,rfl,_,_⟩<;>(
   first|go_enter Tryz.func53,Tryz.ntmps53
   go_wp2_with (at_builtin;refine Lib.wpList_append_run _ rfl _ _ _ _ rfl _ _ rfl rfl _ _ hr ?_)
   all_goals (go_ret;exact⟨_,rfl,fin⟩)))
set_option maxHeartbeats 16000000 in
theorem vK:iK Tryz.prog 53 65 3:=by
 refine ?_<;>(
  intro w n i g cap C cs own vb vc m VC vs AY B8 BD hv hm hb FC FB;obtain⟨G,ROW,ROW2,ROW3,Rp,iZ,MY,UZ,OV,fin,Y3,Ux⟩:=wF (P:=Tryz.prog) own AY B8 BD hv hm hb FC FB;obtain⟨LL,HH,hg,Ld, -⟩:=AY;have Vh:=Dy hg;have RY: ¬((m:Int)=0):=by omega
  have PJ: ¬((i:Int)=(n:Int)):=by omega
  have mJ:(cap:Int)<(n:Int)+(m:Int):=by omega
  have hGi: ¬(G=i):=by omega
  have jB: ¬(G=i+m):=by omega
  have Ke: ¬(cap=i):=by omega
  have l7:IntKind.i64.wrap ((i:Int)+(m:Int))=(i:Int)+(m:Int):=by rw[IntKind.wrap_i64];omega
  have GL:(0:Int)<=(i:Int)+(m:Int):=by omega
  have Vm:i<=n:=by omega
  have lS:((i:Int)+(m:Int)).toNat=i+m:=by omega
  have Ll:(i:Int)<=(n:Int):=by omega
  first|go_enter Tryz.func53,Tryz.ntmps53
  go_wp2_with (first
   |(at_builtin;refine Lib.wpList_append_run _ rfl _ _ _ _ rfl _ _ rfl rfl _ _ (MY _) ?_)
   |(at_builtin;refine WQ _ rfl _ _ _ _ rfl _ _ rfl rfl (UZ _ Y3 _ _) ?_)
   |(at_builtin;refine WQ _ rfl _ _ _ _ rfl _ _ rfl rfl (OV _ rfl _ _ _) ?_))
  go_region_law (refine cF rfl _ _ _ _ rfl _ _ (by simp[Act.eval,Act.put]) (by simp[Act.eval,Act.put]) (OV _ Ux _ (G-(i+m)) (cap-i)) ?_)
  go_wp2
  go_ret
  exact⟨_,rfl,fin _ rfl rfl rfl rfl⟩)
set_option maxHeartbeats 16000000 in
theorem vC:iI Tryz.prog 53 65 3:=by
 refine ?_<;>(
  intro w n i g cap C cs own vb vc m VC vs AY EB B8 BD MZ hv hm FC FB;obtain⟨C1,C2,VI,UX,UY,fin,Ux,iY⟩:=wP (P:=Tryz.prog) AY EB B8 BD MZ hv hm FC FB;obtain⟨LL,OP,hg,Ld, -⟩:=AY;have OP:cap<=9223372036854775807:=OP;have Vh:=Dy hg;have RY: ¬((m:Int)=0):=by omega
  have PJ: ¬((i:Int)=(n:Int)):=by omega
  have mJ: ¬((cap:Int)<(n:Int)+(m:Int)):=by omega
  have Ke: ¬(cap=i):=by omega
  have jV: ¬(cap=i+m):=by omega
  have l7:IntKind.i64.wrap ((i:Int)+(m:Int))=(i:Int)+(m:Int):=by rw[IntKind.wrap_i64];omega
  have GL:(0:Int)<=(i:Int)+(m:Int):=by omega
  have Vm:i<=n:=by omega
  have lS:((i:Int)+(m:Int)).toNat=i+m:=by omega
  have Ll:(i:Int)<=(n:Int):=by omega
  have hb4:(i:Int)<=(n:Int)+(m:Int):=by omega
  clear hg hv
  first|go_enter Tryz.func53,Tryz.ntmps53
  go_wp2_with (simp only[VI])
  go_region_law (refine cF rfl _ _ _ _ rfl _ _ (by simp[Act.eval,Act.put]) (by simp[Act.eval,Act.put]) (UX _ Ux _ (cap-(i+m)) (cap-i)) ?_)
  go_wp2_with (at_builtin;refine WQ _ rfl _ _ _ _ rfl _ _ rfl rfl (UY _ iY _ _) ?_)
  go_ret
  exact⟨_,rfl,fin _ rfl rfl rfl rfl⟩)
theorem vX:Ue Tryz.prog 53 65 3:=xF wO vK vC
end Go.Proofs.YteeafhlnofapaaaGreat
end
section
namespace Go.Proofs.YteeafhlnofapaaaGreat
open Go.RowKit Go.Sort
def DB{α:Type}(av:α->AV)(x:α):List Value:=(av x).cells.map AV.val
theorem yS{w:World}:∀{cs:List Value} {ys:List AV} {f:List Nat},Rd w cs ys f->(∀y∈ys,y.scalar=true)->cs=ys.map AV.val:=by
 intro cs ys f h
 induction h with
 |nil=>intro _;rfl
 |int _ _ ih=>intro hy;rw[ih λy m=>hy y (by simp[m])];rfl
 |bool _ ih=>intro hy;rw[ih λy m=>hy y (by simp[m])];rfl
 |str _ _ ih=>intro hy;rw[ih λy m=>hy y (by simp[m])];rfl
 |_=>intro hy;first|(have:=hy _ (List.mem_cons_self ..);simp[AV.scalar]at this)
section
variable {α:Type} {av:α->AV} {k:Nat}
theorem eI(Dq:∀x,∀y∈(av x).cells,y.scalar=true){w:World}:∀{xs:List α} {cs:List Value},Rd w cs (Am (xs.map av)) []->cs=xs.flatMap (DB av)/\ ∀x∈xs,Rd w (DB av x) (av x).cells []
 | [],cs,h=>by have:Am (List.map av [])=[]:=rfl;rw[this]at h;cases h;exact⟨rfl,by simp⟩
 |x::xs,cs,h=>by
  have e:Am ((x::xs).map av)=(av x).cells++Am (xs.map av):=by simp[Am]
  rw[e]at h;have hl:=h.len;have e2:cs=cs.take (av x).cells.length++cs.drop (av x).cells.length:=(Bq _ _).symm;rw[e2]at h;obtain⟨f1,f2,hf,h1,h2⟩:=Rd.c8 (by rw[AF,hl];simp) h;obtain⟨rfl,rfl⟩:f1=[]/\f2=[]:=by simpa using hf.symm
  obtain⟨g1,g2⟩:=eI Dq h2;have g3:=yS h1 (Dq x);refine⟨by rw[e2,g3,g1];simp[DB],λy hy=> ?_⟩;rcases Ac.1 hy with rfl|hy
  ·unfold DB;rw[<-g3];exact h1
  ·exact g2 y hy
theorem fY{w:World}:∀{xs:List α},(∀x∈xs,Rd w (DB av x) (av x).cells [])->Rd w (xs.flatMap (DB av)) (Am (xs.map av)) []
 | [],_=>by simpa[Am]using Rd.nil
 |x::xs,h=>by
  have e:Am ((x::xs).map av)=(av x).cells++Am (xs.map av):=by simp[Am]
  rw[e,List.flatMap_cons];exact(h x (by simp)).app (fY λy hy=>h y (by simp[hy]))
variable [Inhabited α]
omit [Inhabited α]in
theorem bE{j n k:Nat}(h:j<n*k):0<k:=by
 cases k with
 |zero=>simp at h
 |succ k=>omega
omit [Inhabited α]in
theorem eW{enc:α->List Value}(hk:∀x,(enc x).length=k):∀(l:List α),(l.flatMap enc).length=l.length*k
 | []=>by simp
 |x::l=>by simp only[List.flatMap_cons,AO,hk,eW hk l,AM,Nat.add_mul];omega
theorem eK{enc:α->List Value}(hk:∀x,(enc x).length=k):∀(l:List α) (j:Nat),j<l.length*k->(l.flatMap enc)[j]?=(enc l[j/k]!)[j % k]?
 | [],j,h=>by simp at h
 |x::l,j,h=>by
  have k0:0<k:=bE h;rw[List.flatMap_cons];by_cases hj:j<k
  ·rw[List.getElem?_append_left (by rw[hk];exact hj),Nat.div_eq_of_lt hj,Nat.mod_eq_of_lt hj];rfl
  ·rw[List.getElem?_append_right (by rw[hk];omega),hk,eK hk l (j-k) (by simp only[AM,Nat.add_mul]at h;omega)];obtain⟨i,rfl⟩:∃i,j=i+k:=⟨j-k,by omega⟩
   rw[Nat.add_sub_cancel,Nat.add_div_right _ k0,Nat.add_mod_right];rfl
theorem bR{enc:α->List Value}(hk:∀x,(enc x).length=k)(d:Array α):(flatK enc k d).toList=d.toList.flatMap enc:=by
 apply List.ext_getElem?;intro j;by_cases hj:j<d.size*k
 ·have k0:0<k:=bE hj;have hd:j/k<d.size:=Nat.div_lt_of_lt_mul (by rw[Nat.mul_comm];exact hj);have hm:j % k<k:=Nat.mod_lt _ k0;rw[eK hk _ _ (by simpa using hj)];have h1:=get_flatK enc k d j hj;rw[Array.getElem?_toList,Array.getElem?_eq_getElem (by simpa using hj),<-getElem!_pos (flatK enc k d) j (by simpa using hj),h1];rw[show(d.toList[j/k]!)=(d[j/k]!) by simp[hd],CJ (by rw[hk];exact hm),getElem!_pos _ _ (by rw[hk];exact hm)]
 ·rw[List.getElem?_eq_none (by simpa using hj),List.getElem?_eq_none (by rw[eW hk];simpa using hj)]
theorem qE(F C:Array Value)(h:F.size<=C.size):(Go.Sort.putCells id 0 F C).toList.take F.size=F.toList:=by
 apply List.ext_getElem?;intro j;by_cases hj:j<F.size
 ·have hc:j<C.size:=by omega
  simp[Go.Sort.putCells,List.getElem?_take,hj,hc]
 ·rw[List.getElem?_eq_none (by simp;omega),List.getElem?_eq_none (by simpa using hj)]
theorem rV{enc:α->List Value}{w:World}{g m:Nat}{C:Array Value}{el:TypeId}{d:Array α}{os:Array Obj}(h:w.heap[g]?=some (.cells C el (0,0))):
  (sortWorldK enc k w g 0 m d os).heap[g]?=some (.cells (Go.Sort.putCells id 0 (flatK enc k d) C) el (0,0)):=by
 have hg:=Dy h;show((w.heap.modify g (onCells (Go.Sort.putCells id 0 (flatK enc k d))))++os)[g]?=_;rw[Array.getElem?_append_left (by simpa using hg),Array.getElem?_modify,if_pos rfl,h];rfl
theorem sD{enc:α->List Value}{w:World}{g m:Nat}{d:Array α}{os:Array Obj}:Mod [g] w (sortWorldK enc k w g 0 m d os):=by
 refine⟨rfl,rfl,rfl,?_,λj hj hn=> ?_⟩
 ·show w.heap.size<=((w.heap.modify g (onCells (Go.Sort.putCells id 0 (flatK enc k d))))++os).size;simp
 ·show((w.heap.modify g (onCells (Go.Sort.putCells id 0 (flatK enc k d))))++os)[j]?=_;rw[Array.getElem?_append_left (by simpa using hj),Array.getElem?_modify,if_neg (by simpa[eq_comm]using hn)]
end
def iG(P:Program)(sg:BE)(f:Nat)(t ft el K:Nat):Bool:=
 match P.funcs[f]?,sg f with
 |some fn,some s=>(match s.bh,s.res,s.ft,s.lo with
  | [.mu [true], .ro],[],[],[]=>true
  |_,_,_,_=>false)&&fn.body.isSome&& !(fn.name== "runtime.NumGoroutine")&&fn.params.toList==[t,ft]&&fn.resultTypes.toList==[]&&fn.nfree==0&& !Ah P t&&AW P t==[t]&&Cj P t==some el&&BW P el&&P.cellsOf el==K&&fn.params.size==2
 |_,_=>false
theorem uR{f g t ft el k:Nat}{α:Type}[Inhabited α]{av:α->AV}(S:Array α->Array α)(hk:iG Tryz.prog Cp f t ft el k=true)
  (Dq:∀x,∀y∈(av x).cells,y.scalar=true) (hlen:∀x,(av x).cells.length=k) (jJ:∀d:Array α,(S d).toList.Perm d.toList)
  (hS:∀(blk cap:Nat) (d:Array α) (w:World),HoldsK (DB av) k w blk 0 d->blk<w.heap.size->d.size<4611686018427387904->
   Calls Tryz.prog f #[.slice (some ⟨blk,0,none⟩) d.size cap, .func (.func g) #[] #[]] w λe w'=>e= .returned (.tuple #[])/\ ∃n os,w'=sortWorldK (DB av) k w blk 0 n (S d) os)
  (h0:∀p cap fv w,Calls Tryz.prog f #[.slice p 0 cap,fv] w λe w'=>e= .returned (.tuple #[])/\w'=w)
  (xs:List α) (hb:xs.length<4611686018427387904):Cr Tryz.prog Cp f [.sl (xs.map av), .fn g []] (.tup [.tup [], .sl ((S xs.toArray).toList.map av)]):=by
 unfold iG at hk;split at hk
 ·rename_i fn s hf hs;simp only[Ad,Bh,AB]at hk;obtain⟨⟨⟨⟨⟨⟨⟨⟨⟨⟨⟨g1,g2⟩,g3⟩,g4⟩,g5⟩,g6⟩,g7⟩,g8⟩,g9⟩,g10⟩,g11⟩,g13⟩:=hk;obtain⟨hm,hr,CV,BN⟩:s.bh=[.mu [true], .ro]/\s.res=[]/\s.ft=[]/\s.lo=[]:=by
   split at g1
   ·rename_i a b c d;exact⟨a,b,c,d⟩
   ·cases g1
  have BV:∀x,(DB av x).length=k:=λx=>by simp[DB,hlen]
  have hp:=jJ xs.toArray;have F0:(S xs.toArray).toList.length=xs.length:=by simpa using hp.length_eq
  unfold Cr;rw[if_pos (My f s hs)];refine⟨s,hs,fn,hf,g2,g3,?_,by simp[g6,g13],by simp[CV],λw vs rf lf A1 Ai hd _ BT DO=> ?_⟩
  ·unfold JI Rc;rw[g4,g5,CV,AE,hm];simp[Bj,QY,GB]
  rw[g4,CV,AE,hm,BN]at Ai;cases Ai with
  |lent h _ _ _=>cases h
  | @cons _ _ _ _ v1 vs1 _ _ f1 k1 rf1 lf1 Bu a1 Ai=>
   cases Ai with
   |lent h _ _ _=>cases h
   | @cons _ _ _ _ v2 vs2 _ _ f2 k2 rf2 lf2 AQ a2 Ai=>
    cases Ai;obtain⟨rfl,r1⟩:=XB g7 g8 g9 g10 a1;obtain⟨a2,rfl⟩:Rd w [v2] [AV.fn g []] f2/\k2=[]:=a2;obtain⟨rfl,rfl⟩:v2= .func (.func g) #[] #[]/\f2=[]:=by
     cases a2 with
     |fn b1 b2=>cases b1;cases b2;exact⟨rfl,rfl⟩
    obtain⟨xs',cs,e1,p0,p1,p2,p3,p4,p5⟩:=r1.jz;cases e1;rw[g11]at p0 p1 p2 p5;have Gn:(xs.map av).length=xs.length:=by simp
    rcases p5 with⟨Eu,rfl,q,rfl⟩|⟨b,cap,C,rfl,⟨z1,z2,z3,z4,z5⟩,rfl⟩
    ·have B3:xs=[]:=by simpa using Eu
     subst B3;have jI:(S #[]).toList=[]:=by simpa using F0
     refine(h0 q 0 _ w).mono ?_;rintro e w' ⟨rfl,rfl⟩;refine⟨_,rfl,⟨⟨.tup [],[.sl []],[],[],[],[],by simp[jI],?_,?_,by simp,by simp,by simp⟩,Mod.refl _ _⟩⟩
     ·rw[g5];exact⟨[],[],rfl,rfl, .nil⟩
     ·rw[g4,CV,AE,hm];have Fk:Ey Tryz.prog w' (AW Tryz.prog t) [true] [.slice q 0 0] [.sl []] [] []:=by
       rw[g8];have:=Ey.own (P:=Tryz.prog) (w:=w') (t:=t) (ts:=[]) (fl:=[true]) (us:=[]) (ys:=[]) rfl g9 (.inl ⟨g10,rfl⟩) (y:= .sl []) (u:= .slice q 0 0) (top:=[]) (by rw[g11];exact⟨[],rfl,by simp,p0, .inl ⟨rfl,⟨q,rfl⟩,rfl,rfl⟩⟩) .nil;simpa using this
      have:=Da.mu (P:=Tryz.prog) (w:=w') (t:=t) (ts:=[ft]) (ms:=[.mu [true], .ro]) (own:=[true]) (v:= .slice q 0 0) (vs:=[.func (.func g) #[] #[]]) (us:=[.slice q 0 0]) (ys:=[.sl []]) (y:= .sl []) (bs:=[]) (f:=[]) (o1:=[]) (o:=[]) rfl (by rw[g7];simp) Fk (.ro rfl .nil);simpa using this
    ·obtain⟨q1,q2⟩:=eI Dq p3;have Lm:=Dy z3;have Bz:∀o,w.cell? ⟨b,o,none⟩=C[o]?:=TB z3;have U9:(flatK (DB av) k xs.toArray).toList=xs.flatMap (DB av):=by rw[bR BV]
     have hmul:=A3 k z1;rw[Gn]at z1 z5 hmul;have hH:HoldsK (DB av) k w b 0 xs.toArray:=by
      intro j hj;rw[size_flatK]at hj;have Km:j<xs.length*k:=by simpa using hj
      refine⟨?_,aD z3⟩;rw[Bz,Nat.zero_add];have e1:C[j]?=cs[j]?:=by rw[z5,List.getElem?_take,if_pos Km];simp
      rw[e1,q1,<-U9,Array.getElem?_toList,Array.getElem?_eq_getElem (by simpa using hj),<-getElem!_pos (flatK (DB av) k xs.toArray) j (by simpa using hj)];rfl
     have hc:=hS b cap xs.toArray w hH Lm (by simpa using hb);rw[show xs.toArray.size=(xs.map av).length by simp]at hc;refine hc.mono ?_;rintro e w' ⟨rfl,n,os,rfl⟩;have B4:Mod [b] w (sortWorldK (DB av) k w b 0 n (S xs.toArray) os):=sD;have HT:=rV (enc:=DB av) (k:=k) (m:=n) (d:=S xs.toArray) (os:=os) z3;generalize sortWorldK (DB av) k w b 0 n (S xs.toArray) os=w' at B4 HT;have BB:(S xs.toArray).size=xs.length:=by simpa using F0
     have Y5:(flatK (DB av) k (S xs.toArray)).size=xs.length*k:=by rw[size_flatK,BB]
     have BZ:(Go.Sort.putCells id 0 (flatK (DB av) k (S xs.toArray)) C).toList.take (xs.length*k)=(S xs.toArray).toList.flatMap (DB av):=by rw[<-Y5,qE _ _ (by rw[Y5,z4];exact hmul),bR BV]
     have Cu:∀x∈(S xs.toArray).toList,x∈xs:=λx hx=>by simpa using hp.mem_iff.1 hx
     have CQ:Rd w' ((S xs.toArray).toList.flatMap (DB av)) (Am ((S xs.toArray).toList.map av)) []:=(fY λx hx=>q2 x (Cu x hx)).frame (by simp);have Bf:Cy w' el k (.slice (some ⟨b,0,none⟩) (xs.map av).length cap) (.sl ((S xs.toArray).toList.map av)) [b] []:=by
      refine⟨_,rfl,λy hy=> ?_,p0, .inr ⟨b,cap,_,by simp[F0],by simpa[F0]using z1,z2,HT,by simp[Go.Sort.putCells,z4],rfl,?_,?_⟩⟩
      ·obtain⟨x,_,rfl⟩:=List.mem_map.1 hy;exact hlen x
      ·rw[List.length_map,F0,BZ];intro u hu;obtain⟨x,hx,hu⟩:=List.mem_flatMap.1 hu;exact p4 u (by rw[q1];exact List.mem_flatMap.2 ⟨x,Cu x hx,hu⟩)
      ·rw[List.length_map,F0,BZ];exact CQ
     refine⟨_,rfl,⟨⟨.tup [],[.sl ((S xs.toArray).toList.map av)],[],[],[],[b],rfl,?_,?_,by simp,?_,by simp⟩,B4.weaken λj hj=> .inl (by simpa using hj)⟩⟩
     ·rw[g5];exact⟨[],[],rfl,rfl, .nil⟩
     ·rw[g4,CV,AE,hm];have Fk:Ey Tryz.prog w' (AW Tryz.prog t) [true] [.slice (some ⟨b,0,none⟩) (xs.map av).length cap] [.sl ((S xs.toArray).toList.map av)] [] [b]:=by
       rw[g8];have:=Ey.own (P:=Tryz.prog) (w:=w') (t:=t) (ts:=[]) (fl:=[true]) (us:=[]) (ys:=[]) rfl g9 (.inl ⟨g10,rfl⟩) (by rw[g11];exact Bf) .nil;simpa using this
      have:=Da.mu (P:=Tryz.prog) (w:=w') (t:=t) (ts:=[ft]) (ms:=[.mu [true], .ro]) (own:=[true]) (v:= .slice (some ⟨b,0,none⟩) (xs.map av).length cap) (vs:=[.func (.func g) #[] #[]]) (us:=[.slice (some ⟨b,0,none⟩) (xs.map av).length cap]) (ys:=[.sl ((S xs.toArray).toList.map av)]) (y:= .sl ((S xs.toArray).toList.map av)) (bs:=[]) (f:=[]) (o:=[]) rfl (by rw[g7];simp) Fk (.ro rfl .nil);simpa using this
     ·intro j hj;simp only[List.nil_append,List.mem_singleton]at hj;subst hj;exact⟨.inl (by simp),Dy HT⟩
 ·cases hk
end Go.Proofs.YteeafhlnofapaaaGreat
end
section
namespace Go.Proofs.YteeafhlnofapaaaGreat
open Go Go.Proofs Go.Shelf Go.Sort
set_option maxRecDepth 100000
set_option maxHeartbeats 1000000
theorem YF(s:ByteArray)(W:World):Calls Tryz.prog 105 #[.string s] W λe w'=>e= .returned (.bool false)/\w'=W:=by
 go_enter Tryz.func105,Tryz.ntmps105
 go_wp2
 go_ret
 exact⟨rfl,rfl⟩
def MM(a b:ByteArray):Int:=if Op.bytesLess a.toList b.toList then-1 else if a.toList==b.toList then 0 else 1
theorem zvX(a b:ByteArray)(W:World):(binOp .gtr 9 (.string a) (.string b)).run Tryz.prog W= .ok (.bool (!(Op.bytesLess a.toList b.toList||a.toList==b.toList))) W:=by kernel_rfl
theorem wL(a b:ByteArray)(W:World):Calls Tryz.prog 74 #[.string a, .string b] W λe w'=>e= .returned (.int .i64 (MM a b))/\w'=W:=by
 have hg:=zvX a b;unfold MM;by_cases h1:Op.bytesLess a.toList b.toList=true
 ·rw[if_pos h1]
  go_enter Tryz.func74,Tryz.ntmps74
  go_wp2_with (go_at_call 105;refine(YF _ _).mono ?_;rintro e w' ⟨rfl,rfl⟩)
  go_ret
  exact⟨rfl,rfl⟩
 ·have Rn:Op.bytesLess a.toList b.toList=false:=by simpa using h1
  rw[if_neg h1];clear h1;by_cases h2:(a.toList==b.toList)=true
  ·rw[if_pos h2]
   go_enter Tryz.func74,Tryz.ntmps74
   go_wp2_with (go_at_call 105;refine(YF _ _).mono ?_;rintro e w' ⟨rfl,rfl⟩)
   go_ret
   exact⟨rfl,rfl⟩
  ·have Us:(a.toList==b.toList)=false:=by simpa using h2
   rw[if_neg h2];clear h2
   go_enter Tryz.func74,Tryz.ntmps74
   go_wp2_with (go_at_call 105;refine(YF _ _).mono ?_;rintro e w' ⟨rfl,rfl⟩)
   go_ret
   exact⟨rfl,rfl⟩
def PL(x y z:Int):Int:=if x≠0 then x else if y≠0 then y else z
theorem zwi(x y z:Int)(b:Nat)(W:World)(h0:W.cell? ⟨b,0,none⟩=some (.int .i64 x))(h1:W.cell? ⟨b,1,none⟩=some (.int .i64 y))(h2:W.cell? ⟨b,2,none⟩=some (.int .i64 z)):
  Calls Tryz.prog 72 #[.slice (some ⟨b,0,none⟩) 3 3] W λe w'=>e= .returned (.int .i64 (PL x y z))/\w'=W:=by
 unfold PL;by_cases hx:x=0
 ·subst hx;by_cases hy:y=0
  ·subst hy;by_cases hz:z=0
   ·subst hz
    go_enter Tryz.func72,Tryz.ntmps72
    go_wp2
    refine wp_loop_rounds 4 ?_;rw[rounds_succ]
    go_wp2
    rw[rounds_succ]
    go_wp2
    rw[rounds_succ]
    go_wp2
    rw[rounds_succ]
    go_wp2
    go_ret
    exact⟨rfl,rfl⟩
   ·go_enter Tryz.func72,Tryz.ntmps72
    go_wp2
    refine wp_loop_rounds 3 ?_;rw[rounds_succ]
    go_wp2
    rw[rounds_succ]
    go_wp2
    rw[rounds_succ]
    go_wp2
    go_ret
    exact⟨rfl,rfl⟩
  ·rw[if_neg (by simp),if_pos hy]
   go_enter Tryz.func72,Tryz.ntmps72
   go_wp2
   refine wp_loop_rounds 2 ?_;rw[rounds_succ]
   go_wp2
   rw[rounds_succ]
   go_wp2
   go_ret
   exact⟨rfl,rfl⟩
 ·rw[if_pos hx]
  go_enter Tryz.func72,Tryz.ntmps72
  go_wp2
  refine wp_loop_rounds 1 ?_;rw[rounds_succ]
  go_wp2
  go_ret
  exact⟨rfl,rfl⟩
def gL(t1 g1:Int)(k1:ByteArray)(t2 g2:Int)(k2:ByteArray):Int:=PL (Lib.compareInt t1 t2) (Lib.compareInt g1 g2) (MM k1 k2)
theorem x7(t1 g1:Int)(k1 v1:ByteArray)(d1:Bool)(t2 g2:Int)(k2 v2:ByteArray)(d2:Bool)(W:World):
  Calls Tryz.prog 46 #[.agg #[.int .i64 t1, .int .i64 g1, .string k1, .string v1, .bool d1], .agg #[.int .i64 t2, .int .i64 g2, .string k2, .string v2, .bool d2]] W λe w'=>
   e= .returned (.int .i64 (gL t1 g1 k1 t2 g2 k2))/\ ∃q os',w'=grow (W.drewN q) os':=by
 unfold gL;have Ke:=Tryz.cmp_Compare_int;have Bb:=wL;have lF:=zwi
 go_enter Tryz.func46,Tryz.ntmps46
 go_wp2_with fail
 have c0:∀A B:Obj,((W.alloc A).alloc B).drew.heap[W.heap.size]?=some A:=λA B=>by show((W.heap.push A).push B)[W.heap.size]?=some A;simp[Array.getElem?_push]
 have c1:∀A B:Obj,((W.alloc A).alloc B).drew.heap[W.heap.size+1]?=some B:=λA B=>by
  show((W.heap.push A).push B)[W.heap.size+1]?=some B;have h:W.heap.size+1=(W.heap.push A).size:=by simp
  rw[h,Array.getElem?_push_size]
 have hd:∀A B:Obj,∃q os,((W.alloc A).alloc B).drew=grow (W.drewN q) os:=λA B=>⟨1, #[A,B],by rw[alloc_eq_grow,alloc_eq_grow,grow_grow];rfl⟩
 refine wp_region_still_tail 15 (by kernel_rfl) (by kernel_rfl) ?_;simp only[List.take_succ_cons,List.take_zero,List.drop_succ_cons,List.drop_zero];change wpStill _ _ (World.drew _) (λa'=>wpList _ _ _ _ a' (World.drew _)) _ _;have b0:=TB (c0 (.cells #[.int .i64 t1, .int .i64 g1, .string k1, .string v1, .bool d1] 67) (.cells #[.int .i64 t2, .int .i64 g2, .string k2, .string v2, .bool d2] 67));have b1:=TB (c1 (.cells #[.int .i64 t1, .int .i64 g1, .string k1, .string v1, .bool d1] 67) (.cells #[.int .i64 t2, .int .i64 g2, .string k2, .string v2, .bool d2] 67));have hq:=hd (.cells #[.int .i64 t1, .int .i64 g1, .string k1, .string v1, .bool d1] 67) (.cells #[.int .i64 t2, .int .i64 g2, .string k2, .string v2, .bool d2] 67);clear c0 c1 hd;generalize ((W.alloc (.cells #[.int .i64 t1, .int .i64 g1, .string k1, .string v1, .bool d1] 67)).alloc (.cells #[.int .i64 t2, .int .i64 g2, .string k2, .string v2, .bool d2] 67)).drew=W2 at*;obtain⟨q,os,hq⟩:=hq;have HQ:=Lib.hid hq;clear hq
 repeat still_step
 still_call (Ke _ _ _)
 repeat still_step
 still_call (Ke _ _ _)
 repeat still_step
 still_call (Bb _ _ _)
 refine wpStill_nil ?_;change wpList _ _ _ _ _ W2
 go_wp2_with (go_at_call 72;refine(lF (Lib.compareInt t1 t2) (Lib.compareInt g1 g2) (MM k1 k2) _ _ (by simp) (by simp) (by simp)).mono ?_;rintro e w' ⟨rfl,rfl⟩)
 have H:=HQ.out
 go_ret
 exact⟨rfl,q,_,by rw[H,alloc_eq_grow,grow_grow]⟩
end Go.Proofs.YteeafhlnofapaaaGreat
end
section
namespace Go.Proofs
open Go.Shelf
def Tryz.dy:Go.Shelf.Ren:=⟨λ|6=>45|15=>71|14=>70|28=>102|29=>103|20=>94|21=>95|22=>96|23=>97|24=>98|25=>99|26=>100|27=>101|46=>113|47=>114|48=>115|49=>116|50=>117|57=>120|n=>n,λ|22=>32|24=>67|25=>91|3=>3|39=>111|0=>0|53=>134|55=>43|4=>4|46=>128|45=>127|50=>94|5=>5|9=>9|66=>139|70=>143|76=>146|77=>147|n=>n,λ|n=>n⟩
theorem Tryz.dz:Go.Proofs.SlLaysF0.n6 Tryz.prog Tryz.dy:={
 mixed:=by kernel_rfl
 f6:=⟨Tryz.f45.name,by decide,Tryz.func45.trans (congrArg some (by kernel_rfl))⟩
 f14:=⟨Tryz.f70.name,by decide,Tryz.func70.trans (congrArg some (by kernel_rfl))⟩
 f15:=Tryz.func71.trans (congrArg some (by kernel_rfl))
 f20:=⟨Tryz.f94.name,by decide,Tryz.func94.trans (congrArg some (by kernel_rfl))⟩
 f21:=⟨Tryz.f95.name,by decide,Tryz.func95.trans (congrArg some (by kernel_rfl))⟩
 f22:=⟨Tryz.f96.name,by decide,Tryz.func96.trans (congrArg some (by kernel_rfl))⟩
 f23:=⟨Tryz.f97.name,by decide,Tryz.func97.trans (congrArg some (by kernel_rfl))⟩
 f24:=⟨Tryz.f98.name,by decide,Tryz.func98.trans (congrArg some (by kernel_rfl))⟩
 f25:=⟨Tryz.f99.name,by decide,Tryz.func99.trans (congrArg some (by kernel_rfl))⟩
 f26:=⟨Tryz.f100.name,by decide,Tryz.func100.trans (congrArg some (by kernel_rfl))⟩
 f27:=⟨Tryz.f101.name,by decide,Tryz.func101.trans (congrArg some (by kernel_rfl))⟩
 f28:=Tryz.func102.trans (congrArg some (by kernel_rfl))
 f29:=Tryz.func103.trans (congrArg some (by kernel_rfl))
 f46:=⟨Tryz.f113.name,by decide,Tryz.func113.trans (congrArg some (by kernel_rfl))⟩
 f47:=Tryz.func114.trans (congrArg some (by kernel_rfl))
 f48:=Tryz.func115.trans (congrArg some (by kernel_rfl))
 f49:=⟨Tryz.f116.name,by decide,Tryz.func116.trans (congrArg some (by kernel_rfl))⟩
 f50:=⟨Tryz.f117.name,by decide,Tryz.func117.trans (congrArg some (by kernel_rfl))⟩
 f57:=⟨Tryz.f120.name,by decide,Tryz.func120.trans (congrArg some (by kernel_rfl))⟩
 t0:=Tryz.underlying0
 a0:=Tryz.isAgg0
 z0:=Tryz.sizeOf0
 v0:=Tryz.zeroValue0
 t3:=Tryz.underlying3
 a3:=Tryz.isAgg3
 z3:=Tryz.sizeOf3
 v3:=Tryz.zeroValue3
 t4:=Tryz.underlying4
 a4:=Tryz.isAgg4
 z4:=Tryz.sizeOf4
 v4:=Tryz.zeroValue4
 t5:=Tryz.underlying5
 a5:=Tryz.isAgg5
 z5:=Tryz.sizeOf5
 v5:=Tryz.zeroValue5
 t9:=Tryz.underlying9
 a9:=Tryz.isAgg9
 z9:=Tryz.sizeOf9
 v9:=Tryz.zeroValue9
 t22:=Tryz.underlying32
 a22:=Tryz.isAgg32
 z22:=Tryz.sizeOf32
 v22:=Tryz.zeroValue32
 t25:=Tryz.underlying91
 a25:=Tryz.isAgg91
 z25:=Tryz.sizeOf91
 v25:=Tryz.zeroValue91
 t39:=Tryz.underlying111
 a39:=Tryz.isAgg111
 z39:=Tryz.sizeOf111
 v39:=Tryz.zeroValue111
 t45:=Tryz.underlying127
 a45:=Tryz.isAgg127
 z45:=Tryz.sizeOf127
 v45:=Tryz.zeroValue127
 t46:=Tryz.underlying128
 a46:=Tryz.isAgg128
 z46:=Tryz.sizeOf128
 v46:=Tryz.zeroValue128
 t50:=Tryz.underlying94
 a50:=Tryz.isAgg94
 z50:=Tryz.sizeOf94
 v50:=Tryz.zeroValue94
 t53:=Tryz.underlying134
 a53:=Tryz.isAgg134
 z53:=Tryz.sizeOf134
 v53:=Tryz.zeroValue134
 t55:=Tryz.underlying43
 a55:=Tryz.isAgg43
 z55:=Tryz.sizeOf43
 v55:=Tryz.zeroValue43
 t66:=Tryz.underlying139
 a66:=Tryz.isAgg139
 z66:=Tryz.sizeOf139
 v66:=Tryz.zeroValue139
 t70:=Tryz.underlying143
 a70:=Tryz.isAgg143
 z70:=Tryz.sizeOf143
 v70:=Tryz.zeroValue143
 t76:=Tryz.underlying146
 a76:=Tryz.isAgg146
 z76:=Tryz.sizeOf146
 v76:=Tryz.zeroValue146
 t77:=Tryz.underlying147
 a77:=Tryz.isAgg147
 z77:=Tryz.sizeOf147
 v77:=Tryz.zeroValue147}
end Go.Proofs
end
section
namespace Go.Proofs.YteeafhlnofapaaaGreat
open Go.RowKit
theorem BQ{α:Type}{xs:List α}{i:Nat}(h:i<xs.length):getI xs (i:Int)=some xs[i]:=by simp[getI,h]
theorem xP{α:Type}{xs:List α}{i:Int}(h0:0<=i)(h:i<xs.length):∃x,getI xs i=some x/\x∈xs/\xs[i.toNat]?=some x:=by
 have hi:i.toNat<xs.length:=by omega
 exact⟨xs[i.toNat],by simp[getI,h0,hi],Bc hi,by simp[hi]⟩
theorem El{q n:Nat}(h:q<n)(hn:n<=9223372036854775807):IntKind.i64.wrap ((q:Int)+1)=((q+1:Nat):Int):=by rw[Ek (by omega) (by omega)];simp
theorem CO{α:Type}{p:Prop}{k:Option α}(h:p):req p k=k:=by simp[req,h]
def Ge{α σ β:Type}(step:α->σ->Option (σ ⊕ Option β))(fin:σ->Option β):List α->σ->Option β
 | [],s=>fin s
 |x::xs,s=>match step x s with
  |none=>none
  |some (.inl s')=>Ge step fin xs s'
  |some (.inr o)=>o
def MF{σ τ β:Type}(f:σ->τ):Option (σ ⊕ Option β)->Option (τ ⊕ Option β)
 |none=>none
 |some (.inl s)=>some (.inl (f s))
 |some (.inr o)=>some (.inr o)
theorem tO{α σ τ β:Type}{xs:List α}{body:τ->Option (τ ⊕ Option β)}(emb:Int->σ->τ)(step:α->σ->Option (σ ⊕ Option β))(fin:σ->Option β)(q0:Nat)
  (hs:∀(i:Nat) (hi:i<xs.length) (s:σ),q0<=i->body (emb i s)=MF (emb ((i+1:Nat):Int)) (step xs[i] s)) (he:∀s,body (emb xs.length s)=some (.inr (fin s))) (s:σ) (h0:q0<=xs.length):Bi body (emb q0 s)=Ge step fin (xs.drop q0) s:=by
 have key:∀(n q:Nat) (s:σ),q0<=q->q+n=xs.length->Bi body (emb q s)=Ge step fin (xs.drop q) s:=by
  intro n
  induction n with
  |zero=>
   intro q s _ hq;have:q=xs.length:=by omega
   subst this;rw[DQ,he s];simp[Ge]
  |succ n ih=>
   intro q s h0 hq;have AA:q<xs.length:=by omega
   rw[DQ,hs q AA s h0,A7 AA];rcases Ib:step xs[q] s with _|s'|o
   ·simp[Ge,Ib,MF]
   ·simp only[Ge,Ib,MF];exact ih (q+1) s' (by omega) (by omega)
   ·simp[Ge,Ib,MF]
 exact key (xs.length-q0) q0 s (Ar _) (by omega)
theorem dR{α σ τ β:Type}{xs:List α}{body:τ->Option (τ ⊕ Option β)}(emb:Int->σ->τ)(step:α->σ->Option (σ ⊕ Option β))(fin:σ->Option β)
  (hs:∀(i:Nat) (hi:i<xs.length) (s:σ),body (emb i s)=MF (emb ((i+1:Nat):Int)) (step xs[i] s)) (he:∀s,body (emb xs.length s)=some (.inr (fin s))) (s:σ):Bi body (emb 0 s)=Ge step fin xs s:=by
 have:=tO emb step fin 0 (λi hi s _=>hs i hi s) he s (by omega);simpa using this
theorem yE{α σ β:Type}{step:α->σ->Option (σ ⊕ Option β)}{fin:σ->Option β}{xs:List α}(p:α->Bool)(b:β)(h:∀x∈xs,∀s,step x s=some (if p x=true then .inl s else .inr (some b)))(s:σ):Ge step fin xs s=if xs.all p=true then fin s else some b:=by
 induction xs with
 |nil=>simp[Ge]
 |cons x xs ih=>
  simp only[Ge,h x (by simp) s];cases hp:p x with
  |true=>simp[hp,ih λy hy=>h y (by simp[hy])]
  |false=>simp[hp]
theorem uZ{α σ β:Type}{step:α->σ->Option (σ ⊕ Option β)}{fin:σ->Option β}{xs:List α}(f:σ->α->σ)(I:σ->Prop)(hI:∀x∈xs,∀s,I s->I (f s x))(h:∀x∈xs,∀s,I s->step x s=some (.inl (f s x))){s:σ}(hs:I s):Ge step fin xs s=fin (xs.foldl f s):=by
 induction xs generalizing s with
 |nil=>simp[Ge]
 |cons x xs ih=>simp only[Ge,h x (by simp) s hs,List.foldl_cons];exact ih (λy hy=>hI y (by simp[hy])) (λy hy=>h y (by simp[hy])) (hI x (by simp) s hs)
theorem Nu{α σ τ β:Type}{xs:List α}{body:τ->Option (τ ⊕ Option β)}(emb:Int->σ->τ)(f:σ->α->σ)(fin:σ->Option β)(I:Nat->σ->Prop)
  (hs:∀(i:Nat) (hi:i<xs.length) (s:σ),I i s->body (emb i s)=some (.inl (emb ((i+1:Nat):Int) (f s xs[i])))/\I (i+1) (f s xs[i])) (he:∀s,I xs.length s->body (emb xs.length s)=some (.inr (fin s))) {s:σ} (h0:I 0 s):Bi body (emb 0 s)=fin (xs.foldl f s)/\I xs.length (xs.foldl f s):=by
 have key:∀(n q:Nat) (s:σ),q+n=xs.length->I q s->Bi body (emb q s)=fin ((xs.drop q).foldl f s)/\I xs.length ((xs.drop q).foldl f s):=by
  intro n
  induction n with
  |zero=>
   intro q s hq hI;have:q=xs.length:=by omega
   subst this;rw[DQ,he s hI];simp[hI]
  |succ n ih=>
   intro q s hq hI;have AA:q<xs.length:=by omega
   obtain⟨h1,h2⟩:=hs q AA s hI;rw[DQ,h1,A7 AA,List.foldl_cons];exact ih (q+1) _ (by omega) h2
 have:=key xs.length 0 s (by omega) h0;simpa using this
theorem TL{α:Type}{xs:List α}{p:α->Option Bool}(q:α->Bool)(hp:∀x∈xs,p x=some (q x))(hn:xs.length<=9223372036854775806):Hp xs p=some (xs.any q):=by
 have key:∀(l:List α) (i:Int),0<=i->(∀x∈l,p x=some (q x))-> ∃r,Fx p l i=some r/\decide (r>=0)=l.any q:=by
  intro l
  induction l with
  |nil=>intro i _ _;exact⟨-1,rfl,by simp⟩
  |cons x l ih=>
   intro i hi h;simp only[Fx,h x (by simp),Af];cases hq:q x with
   |true=>exact⟨i,by simp,by simp[hq,hi]⟩
   |false=>obtain⟨r,h1,h2⟩:=ih (i+1) (by omega) λy hy=>h y (by simp[hy]);exact⟨r,by simp[h1],by simp[hq,h2]⟩
 obtain⟨r,h1,h2⟩:=key xs 0 (by omega) hp;simp[Hp,JC,CO hn,h1,h2]
theorem xD{α:Type}{b:Nat}{xs:List α}(h:(xs.length:Int)*b<=140737488355328)(h2:(xs.length:Int)<=140737488355328):Yi b xs=some xs:=CO ⟨h,h2⟩
theorem Xz{β:Type}{n:Nat}{body:Int->Option (Int ⊕ Option β)}(p:Nat->Bool)(b:β)(fin:Option β)
  (hs:∀i:Nat,i<n->body i=some (if p i=true then .inl ((i+1:Nat):Int)else .inr (some b))) (he:body n=some (.inr fin)):Bi body 0=if(List.range n).all p=true then fin else some b:=by
 have h1:=dR (xs:=List.range n) (body:=body) (λi (_:Unit)=>i) (λi _=>some (if p i=true then .inl ()else .inr (some b))) (λ_=>fin)
  (λi hi s=>by rw[List.length_range]at hi;rw[hs i hi,List.getElem_range];cases p i<;>simp[MF]) (λs=>by simpa using he) ()
 rw[yE p b λx _ s=>rfl]at h1;exact h1
def DU{α:Type}(p:α->Bool)(l:List α):Int:=match l.findIdx? p with|some i=>(i:Int)|none=> -1
theorem XU{α:Type}(p:α->Bool):DU p []= -1:=rfl
theorem XC{α:Type}(p:α->Bool)(x:α)(l:List α):DU p (x::l)=if p x=true then 0 else if DU p l= -1 then-1 else DU p l+1:=by
 unfold DU;rw[List.findIdx?_cons];cases p x with
 |true=>simp
 |false=>
  cases h:l.findIdx? p with
  |none=>simp
  |some i=>simp<;>omega
theorem TM{α:Type}(p:α->Bool)(l:List α): -1<=DU p l:=by unfold DU;split<;>omega
theorem u5{α:Type}(p:α->Bool)(l:List α):decide (DU p l>=0)=l.any p:=by
 induction l with
 |nil=>simp[XU]
 |cons x l ih=>
  have h1:=TM p l;rw[XC,List.any_cons,<-ih];cases p x with
  |true=>simp
  |false=>
   by_cases h:DU p l= -1
   ·simp[h]
   ·have:DU p l>=0:=by omega
    simp[h,this];try omega
theorem u3{α:Type}{p:α->Bool}{l:List α}(h:DU p l>=0):∃x,getI l (DU p l)=some x/\p x=true/\x∈l:=by
 induction l with
 |nil=>simp[XU]at h
 |cons y l ih=>
  rw[XC]at h ⊢;cases hy:p y with
  |true=>exact⟨y,by simp[getI],hy,by simp⟩
  |false=>
   have h1:=TM p l;by_cases hm:DU p l= -1
   ·rw[hy,hm]at h;simp at h
   ·have h0:DU p l>=0:=by omega
    obtain⟨x,e1,e2,e3⟩:=ih h0;obtain⟨_,e4,e5⟩:=YR e1;refine⟨x,?_,e2,by simp[e3]⟩;simp only[B0,if_false,hm];unfold getI;rw[if_pos (by omega),show(DU p l+1).toNat=(DU p l).toNat+1 by omega];simpa using e5
theorem vG{α:Type}{xs:List α}{body:Int->Option (Int ⊕ Option Int)}(p:α->Bool)(hs:∀(i:Nat) (hi:i<xs.length),body i=some (if p xs[i]=true then .inr (some (i:Int))else .inl ((i+1:Nat):Int)))(he:body xs.length=some (.inr (some (-1)))):Bi body 0=some (DU p xs):=by
 have key:∀(n q:Nat),q+n=xs.length->Bi body q=some (if DU p (xs.drop q)= -1 then-1 else q+DU p (xs.drop q)):=by
  intro n
  induction n with
  |zero=>
   intro q hq;have:q=xs.length:=by omega
   subst this;rw[DQ,he];simp[XU]
  |succ n ih=>
   intro q hq;have AA:q<xs.length:=by omega
   rw[DQ,hs q AA,A7 AA,XC];cases p xs[q]with
   |true=>simp
   |false=>
    simp only[B0,if_false];rw[ih (q+1) (by omega)];have h1:=TM p (xs.drop (q+1));congr 1;by_cases hm:DU p (xs.drop (q+1))= -1
    ·simp[hm]
    ·have h2: ¬(DU p (xs.drop (q+1))+1= -1):=by omega
     simp only[hm,if_false,h2];omega
 have h:=key xs.length 0 (by omega);rw[List.drop_zero]at h;rw[show((0:Nat):Int)=0 from rfl]at h;rw[h];have h1:=TM p xs;by_cases hm:DU p xs= -1
 ·simp[hm]
 ·simp[hm]
abbrev bl(a b:List UInt8):Bool:=Op.bytesLess a b
theorem Il:∀a:List UInt8,bl a a=false
 | []=>rfl
 |x::a=>by
  have h: ¬x<x:=λh=>by have:=UInt8.lt_iff_toNat_lt.1 h;omega
  show Op.bytesLess (x::a) (x::a)=false;simp only[Op.bytesLess,h,decide_false,Bool.false_or,beq_self_eq_true,Bool.true_and];exact Il a
theorem Yc(x y:UInt8)(a b:List UInt8):bl (x::a) (y::b)=true↔x.toNat<y.toNat\/x=y/\bl a b=true:=by show Op.bytesLess (x::a) (y::b)=true↔_;simp only[Op.bytesLess,Bool.or_eq_true,Au,Ad,AB,UInt8.lt_iff_toNat_lt]
theorem G5:∀{a b c:List UInt8},bl a b=true->bl b c=true->bl a c=true
 | [],_,[],_,h=>by rename_i b _;cases b<;>cases h
 | [],_,_::_,_,_=>rfl
 |_::_,[],_,h,_=>by cases h
 |_::_,_::_,[],_,h=>by cases h
 |x::a,y::b,z::c,h1,h2=>by
  rw[Yc]at*;rcases h1 with h1|⟨rfl,h1⟩<;>rcases h2 with h2|⟨rfl,h2⟩
  ·exact .inl (by omega)
  ·exact .inl h1
  ·exact .inl h2
  ·exact .inr ⟨rfl,G5 h1 h2⟩
theorem TY:∀a b:List UInt8,bl a b=true\/a=b\/bl b a=true
 | [],[]=> .inr (.inl rfl)
 | [],_::_=> .inl rfl
 |_::_,[]=> .inr (.inr rfl)
 |x::a,y::b=>by
  rw[Yc,Yc];rcases Nat.lt_trichotomy x.toNat y.toNat with h|h|h
  ·exact .inl (.inl h)
  ·have h0:x=y:=UInt8.toNat_inj.1 h;subst h0;rcases TY a b with h1|h1|h1
   ·exact .inl (.inr ⟨rfl,h1⟩)
   ·exact .inr (.inl (by rw[h1]))
   ·exact .inr (.inr (.inr ⟨rfl,h1⟩))
  ·exact .inr (.inr (.inl h))
theorem TD{a b:List UInt8}(h:bl a b=true):bl b a=false:=by
 cases h2:bl b a with
 |false=>rfl
 |true=>have:=G5 h h2;rw[Il]at this;cases this
theorem Iy{a b:List UInt8}(h:bl a b=true):a≠b:=by rintro rfl;rw[Il]at h;cases h
theorem Xu{a b:List UInt8}(h:bl a b=false)(hn:a≠b):bl b a=true:=by
 rcases TY a b with h1|h1|h1
 ·rw[h]at h1;cases h1
 ·exact absurd h1 hn
 ·exact h1
section
variable {α:Type} (key:α->List UInt8)
def DA(l:List α):Prop:=l.Pairwise λa b=>bl (key a) (key b)=true
def Em(x:α):List α->List α
 | []=> [x]
 |y::l=>if bl (key x) (key y)=true then x::y::l else if key x=key y then x::l else y::Em x l
variable {key}
theorem DA.ew{l:List α}(h:DA key l){a b:α}(ha:a∈l)(hb:b∈l)(e:key a=key b):a=b:=by
 induction l with
 |nil=>cases ha
 |cons y l ih=>
  have h1:=List.pairwise_cons.1 h;rcases Ac.1 ha with q1|q1<;>rcases Ac.1 hb with q2|q2
  ·rw[q1,q2]
  ·exact absurd (q1▸e) (Iy (h1.1 _ q2))
  ·exact absurd (q2▸e.symm) (Iy (h1.1 _ q1))
  ·exact ih h1.2 q1 q2
theorem KP{x:α}:∀{l:List α},DA key l-> ∀y,y∈Em key x l↔y=x\/y∈l/\key y≠key x
 | [],_,y=>by simp[Em]
 |z::l,h,y=>by
  have h1:=List.pairwise_cons.1 h;unfold Em;split
  ·rename_i hb;constructor
   ·intro hy;rcases Ac.1 hy with rfl|hy
    ·exact .inl rfl
    ·refine .inr ⟨hy,?_⟩;rcases Ac.1 hy with rfl|hy
     ·exact(Iy hb).symm
     ·exact(Iy (G5 hb (h1.1 _ hy))).symm
   ·rintro(rfl|⟨hy,_⟩)
    ·simp
    ·exact List.mem_cons_of_mem _ hy
  ·rename_i hb;split
   ·rename_i he;constructor
    ·intro hy;rcases Ac.1 hy with rfl|hy
     ·exact .inl rfl
     ·exact .inr ⟨List.mem_cons_of_mem _ hy,λe=>Iy (h1.1 _ hy) (by rw[e,he])⟩
    ·rintro(rfl|⟨hy,hn⟩)
     ·simp
     ·rcases Ac.1 hy with rfl|hy
      ·exact absurd he.symm hn
      ·exact List.mem_cons_of_mem _ hy
   ·rename_i he;rw[Ac,KP h1.2];constructor
    ·rintro(rfl|rfl|⟨hy,hn⟩)
     ·exact .inr ⟨by simp,λe=>he e.symm⟩
     ·exact .inl rfl
     ·exact .inr ⟨List.mem_cons_of_mem _ hy,hn⟩
    ·rintro(rfl|⟨hy,hn⟩)
     ·exact .inr (.inl rfl)
     ·rcases Ac.1 hy with rfl|hy
      ·exact .inl rfl
      ·exact .inr (.inr ⟨hy,hn⟩)
theorem KK{x:α}:∀{l:List α},DA key l->DA key (Em key x l)
 | [],_=>by simp[Em,DA]
 |z::l,h=>by
  have h1:=List.pairwise_cons.1 h;unfold Em;split
  ·rename_i hb;refine List.pairwise_cons.2 ⟨λy hy=> ?_,h⟩;rcases Ac.1 hy with rfl|hy
   ·exact hb
   ·exact G5 hb (h1.1 _ hy)
  ·rename_i hb;split
   ·rename_i he;exact List.pairwise_cons.2 ⟨λy hy=>by rw[he];exact h1.1 _ hy,h1.2⟩
   ·rename_i he;refine List.pairwise_cons.2 ⟨λy hy=> ?_,KK h1.2⟩;rcases(KP h1.2 y).1 hy with rfl|⟨hy,_⟩
    ·exact Xu (by simpa using hb) he
    ·exact h1.1 _ hy
theorem DA.ext:∀{a b:List α},DA key a->DA key b->(∀x,x∈a↔x∈b)->a=b
 | [],[],_,_,_=>rfl
 | [],y::b,_,_,h=>absurd ((h y).2 (by simp)) (by simp)
 |x::a,[],_,_,h=>absurd ((h x).1 (by simp)) (by simp)
 |x::a,y::b,ha,hb,h=>by
  have h1:=List.pairwise_cons.1 ha;have h2:=List.pairwise_cons.1 hb;have e:x=y:=by
   rcases Ac.1 ((h x).1 (by simp))with e|hx
   ·exact e
   ·rcases Ac.1 ((h y).2 (by simp))with e|hy
    ·exact e.symm
    ·have:=G5 (h1.1 _ hy) (h2.1 _ hx);rw[Il]at this;cases this
  subst e;rw[DA.ext h1.2 h2.2 λz=> ?_];constructor
  ·intro hz;rcases Ac.1 ((h z).1 (List.mem_cons_of_mem _ hz))with rfl|PJ
   ·have:=h1.1 _ hz;rw[Il]at this;cases this
   ·exact PJ
  ·intro hz;rcases Ac.1 ((h z).2 (List.mem_cons_of_mem _ hz))with rfl|PJ
   ·have:=h2.1 _ hz;rw[Il]at this;cases this
   ·exact PJ
theorem DA.filter{l:List α}(h:DA key l)(p:α->Bool):DA key (l.filter p):=List.Pairwise.filter p h
theorem DA.sub{a b:List α}(h:DA key b)(hs:a.Sublist b):DA key a:=List.Pairwise.sublist hs h
theorem X9{x:α}:∀(l:List α),(Em key x l).length<=l.length+1
 | []=>by simp[Em]
 |y::l=>by
  unfold Em;have:=X9 (x:=x) l;split
  ·simp
  ·split
   ·simp
   ·simp only[AM];omega
end
end Go.Proofs.YteeafhlnofapaaaGreat
end
section
namespace Go.Proofs.YteeafhlnofapaaaGreat
open Go.RowKit Go.Sort Go.Shelf
set_option maxRecDepth 100000
def J8(x y:An):Int:=PL (Lib.compareInt x.ab y.ab) (Lib.compareInt x.aj y.aj) (MM ⟨x.ae.toArray⟩ ⟨y.ae.toArray⟩)
def E9(a b:An):Bool:=if a.ab≠b.ab then decide (a.ab<b.ab)else if a.aj≠b.aj then decide (a.aj<b.aj)else bl a.ae b.ae
theorem dV(x y:Int):(Lib.compareInt x y≠0↔x≠y)/\(Lib.compareInt x y<0↔x<y):=by
 unfold Lib.compareInt;by_cases h1:x<y
 ·simp[h1];omega
 ·by_cases h2:y<x
  ·simp[h1,h2];omega
  ·simp[h1,h2];omega
theorem yG(a b:List UInt8):(MM ⟨a.toArray⟩ ⟨b.toArray⟩<0)↔bl a b=true:=by
 unfold MM;rw[ByteArray.toList_eq,ByteArray.toList_eq];by_cases h1:bl a b=true
 ·rw[if_pos (by simpa using h1)];simp[h1]
 ·rw[if_neg (by simpa using h1)];split<;>simp[h1]
theorem TC(x y:An):ltOf J8 x y=E9 x y:=by
 unfold ltOf J8 E9 PL;obtain⟨a1,a2⟩:=dV x.ab y.ab;obtain⟨b1,b2⟩:=dV x.aj y.aj;by_cases h1:x.ab=y.ab
 ·have e1: ¬Lib.compareInt x.ab y.ab≠0:=by rw[a1];simpa using h1
  rw[if_neg e1,if_neg (show¬x.ab≠y.ab by simpa using h1)];by_cases h2:x.aj=y.aj
  ·have e2: ¬Lib.compareInt x.aj y.aj≠0:=by rw[b1];simpa using h2
   rw[if_neg e2,if_neg (show¬x.aj≠y.aj by simpa using h2)];have:=yG x.ae y.ae;cases hb:bl x.ae y.ae
   ·rw[decide_eq_false];rw[this,hb];simp
   ·rw[decide_eq_true];rw[this,hb]
  ·rw[if_pos (b1.2 h2),if_pos h2];simp only[b2]
 ·rw[if_pos (a1.2 h1),if_pos h1];simp only[a2]
theorem cN(x:An):E9 x x=false:=by simp[E9,Il]
theorem XI{a b c:An}(h1:E9 a b=true)(h2:E9 b c=true):E9 a c=true:=by
 unfold E9 at*;by_cases t1:a.ab=b.ab<;>by_cases t2:b.ab=c.ab
 ·rw[if_neg (by simpa using t1)]at h1;rw[if_neg (by simpa using t2)]at h2;rw[if_neg (by simpa using t1.trans t2)];by_cases g1:a.aj=b.aj<;>by_cases g2:b.aj=c.aj
  ·rw[if_neg (by simpa using g1)]at h1;rw[if_neg (by simpa using g2)]at h2;rw[if_neg (by simpa using g1.trans g2)];exact G5 h1 h2
  ·rw[if_pos g2]at h2;rw[if_pos (by rw[g1];exact g2),g1];exact h2
  ·rw[if_pos g1]at h1;rw[if_pos (by rw[<-g2];exact g1),<-g2];exact h1
  ·rw[if_pos g1]at h1;rw[if_pos g2]at h2;simp only[Au]at h1 h2;rw[if_pos (by omega)];simp;omega
 ·rw[if_pos t2]at h2;rw[if_pos (by rw[t1];exact t2),t1];exact h2
 ·rw[if_pos t1]at h1;rw[if_pos (by rw[<-t2];exact t1),<-t2];exact h1
 ·rw[if_pos t1]at h1;rw[if_pos t2]at h2;simp only[Au]at h1 h2;rw[if_pos (by omega)];simp;omega
theorem TU(a b:An):E9 a b=true\/E9 b a=true\/(a.ab=b.ab/\a.aj=b.aj/\a.ae=b.ae):=by
 unfold E9;by_cases t1:a.ab=b.ab
 ·rw[if_neg (show¬a.ab≠b.ab by simpa using t1),if_neg (show¬b.ab≠a.ab by simpa using t1.symm)];by_cases g1:a.aj=b.aj
  ·rw[if_neg (show¬a.aj≠b.aj by simpa using g1),if_neg (show¬b.aj≠a.aj by simpa using g1.symm)];rcases TY a.ae b.ae with h|h|h
   ·exact .inl h
   ·exact .inr (.inr ⟨t1,g1,h⟩)
   ·exact .inr (.inl h)
  ·rw[if_pos g1,if_pos (Ne.symm g1)];simp only[Au];omega
 ·rw[if_pos t1,if_pos (Ne.symm t1)];simp only[Au];omega
theorem eX{a b c:An}(h:a.ab=b.ab/\a.aj=b.aj/\a.ae=b.ae):E9 a c=E9 b c/\E9 c a=E9 c b:=by unfold E9;rw[h.1,h.2.1,h.2.2];exact⟨rfl,rfl⟩
theorem iJ:SWO (ltOf J8)where
 irrefl x:=by rw[TC];exact cN x
 trans x y z h1 h2:=by rw[TC]at*;exact XI h1 h2
 ntrans x y z h1 h2:=by
  rw[TC]at*;rcases TU x y with h|h|h
  ·rw[h]at h1;cases h1
  ·rcases TU y z with k|k|k
   ·rw[k]at h2;cases h2
   ·have mM:=XI k h;cases mG:E9 x z
    ·rfl
    ·have:=XI mM mG;rw[cN]at this;cases this
   ·rw[<-(eX (c:=x) k).2];exact h1
  ·rw[(eX (c:=z) h).1];exact h2
instance:Inhabited An:=⟨⟨0,0,[],[],false⟩⟩
def ES(d:Array An):Array An:=pdq (ltOf J8) d 0 d.size (Lib.bitLen d.size) true true
theorem cO(d:Array An):(ES d).toList.Perm d.toList/\(ES d).size=d.size/\SortedIn (ltOf J8) 0 d.size (ES d):=by
 obtain⟨⟨h1,_,h2⟩,h3⟩:=pdq_sorts (ltOf J8) iJ d 0 d.size (Lib.bitLen d.size) true true (Nat.zero_le _) (Ar _) (Or.inl rfl);have e:(ES d).extract 0 d.size=ES d:=by have:d.size=(ES d).size:=h1.symm;rw[this];simp
 refine⟨?_,h1,h3⟩;have Us:((ES d).extract 0 d.size).toList.Perm (d.extract 0 d.size).toList:=h2;rw[e]at Us;simpa using Us
theorem tQ(blk cap:Nat)(d:Array An)(w:World)(hH:HoldsK (DB IS) 5 w blk 0 d)(hblk:blk<w.heap.size)(BB:d.size<4611686018427387904):
  Calls Tryz.prog 45 #[.slice (some ⟨blk,0,none⟩) d.size cap, .func (.func 46) #[] #[]] w λe w'=>e= .returned (.tuple #[])/\ ∃n os,w'=sortWorldK (DB IS) 5 w blk 0 n (ES d) os:=by
 have eg:∀args w,(callFunc 46 args).run Tryz.prog w= .ok (.enter 46 args) w:=enters_of Tryz.func46 (by kernel_rfl) rfl;have UW:CmpLays Tryz.prog 46 #[] (DB IS) 5 J8 blk 0 d.size w:=λm os dk hs x y=>x7 x.ab x.aj ⟨x.ae.toArray⟩ ⟨x.ar.toArray⟩ x.al y.ab y.aj ⟨y.ae.toArray⟩ ⟨y.ar.toArray⟩ y.al _;exact AnyQ.slices_SortFunc_eq Tryz.dz 5 Tryz.isAgg67 Tryz.sizeOf67 (DB IS) (λ_=>rfl) (λx v hv=>by simp only[DB,IS,AV.cells,List.map_cons,List.map_nil,AV.val,Ac,List.not_mem_nil,or_false]at hv;rcases hv with rfl|rfl|rfl|rfl|rfl<;>rfl) J8 iJ 46 #[] blk 0 cap d w eg UW hH hblk BB
theorem rP(p:Option Addr)(cap:Nat)(fv:Value)(w:World):Calls Tryz.prog 45 #[.slice p 0 cap,fv] w λe w'=>e= .returned (.tuple #[])/\w'=w:=
 AnyF.slices_SortFunc_none Tryz.dz p cap fv w
noncomputable def S9(g:Nat)(caps:List AV)(xs:List An):Option (Unit × List An):=req (g=46/\caps=[]/\xs.length<4611686018427387904) (some ((),(ES xs.toArray).toList))
theorem pO{g:Nat}{caps:List AV}{xs:List An}{r:Unit × List An}(h:S9 g caps xs=some r):
  Cr Tryz.prog Cp 45 [.sl (xs.map IS), .fn g caps] (.tup [.tup [], .sl (r.2.map IS)]):=by
 obtain⟨hc,hr⟩:=GG h;obtain⟨rfl,rfl,hb⟩:=hc;cases hr;exact uR (ft:=(match Tryz.prog.funcs[45]? with|some fn=>fn.params.toList.getD 1 0|none=>0)) (t:=32) (el:=67) (k:=5) ES (by kernel_rfl) (λx y hy=>by simp only[IS,AV.cells,Ac,List.not_mem_nil,or_false]at hy;rcases hy with rfl|rfl|rfl|rfl|rfl<;>rfl) (λ_=>rfl) (λd=>(cO d).1) tQ rP xs hb
end Go.Proofs.YteeafhlnofapaaaGreat
end
section
namespace Go.Proofs.YteeafhlnofapaaaGreat
open Go.RowKit Go.Shelf
attribute [local go_sem] Oper.semAt_some
abbrev VT:=Int × ByteArray × Bool
def vz(zs:List VT)(j:Nat):VT:=(zs[j]?).getD (0,ByteArray.empty,false)
def EP{α:Type}(f:Nat->α)(k:Nat):List α:=(List.range k).map f
theorem cB{α:Type}(f:Nat->α)(k:Nat):EP f (k+1)=EP f k++ [f k]:=by simp[EP,List.range_succ]
theorem pV{α:Type}(f:Nat->α)(k:Nat):(EP f k).length=k:=by simp[EP]
def Ix(zs:List VT)(j:Nat):Nat × VT:=(zs.length-1-j,vz zs (zs.length-1-j))
def gK(W:World)(b off:Nat)(zs:List VT):Prop:= ∀j,j<zs.length->W.cell? ⟨b,off+j*3,none⟩=some (.int .i64 (vz zs j).1)/\W.cell? ⟨b,off+j*3+1,none⟩=some (.string (vz zs j).2.1)/\W.cell? ⟨b,off+j*3+2,none⟩=some (.bool (vz zs j).2.2)
def Vers(n₀:Nat)(W:World)(sv:Value)(zs:List VT):Prop:=(∃a c,sv= .slice a 0 c/\zs=[])\/ ∃b off cap,sv= .slice (some ⟨b,off,none⟩) zs.length cap/\b<n₀/\gK W b off zs
theorem Vers.below{n₀:Nat}{A B:World}(h:Below n₀ A B){sv:Value}{zs:List VT}:Vers n₀ A sv zs->Vers n₀ B sv zs
 | .inl e=> .inl e
 | .inr ⟨b,off,cap,e,hb,hc⟩=> .inr ⟨b,off,cap,e,hb,λj hj=>⟨(h.cell (p:=⟨b,off+j*3,none⟩) hb).trans (hc j hj).1,(h.cell (p:=⟨b,off+j*3+1,none⟩) hb).trans (hc j hj).2.1,(h.cell (p:=⟨b,off+j*3+2,none⟩) hb).trans (hc j hj).2.2⟩⟩
theorem Vers.mono{n₀ n₁:Nat}{W:World}{sv:Value}{zs:List VT}(h:n₀<=n₁):Vers n₀ W sv zs->Vers n₁ W sv zs
 | .inl e=> .inl e
 | .inr ⟨b,off,cap,e,hb,hc⟩=> .inr ⟨b,off,cap,e,by omega,hc⟩
set_option maxRecDepth 100000 in
set_option maxHeartbeats 2000000 in
theorem xE(F:Fence)(n:Nat)(h7:F.fn 93)(Dw:F.round=none)(hn:1<=n)(l Bs n₀ b off cap:Nat)(zs:List VT)(D6:zs.length*1000<=140737488351232)(hb:b<n₀)(J Jx:List (Nat × VT)->World->Prop)
  (hY:∀pre x W,J pre W->pre.length<zs.length->YieldAt F (n-1) Tryz.prog l #[.int .i64 (x.1:Int), .agg #[.int .i64 x.2.1, .string x.2.2.1, .bool x.2.2.2]] W λe W'=>
   (e= .returned (.bool true)/\J (pre++ [x]) W'/\Below n₀ W W')\/(e= .returned (.bool false)/\Jx (pre++ [x]) W'))
  (W:World) (GJ:W.cell? ⟨Bs,0,none⟩=some (.slice (some ⟨b,off,none⟩) zs.length cap)) (OA:Bs<n₀) (hc:gK W b off zs) (h0:J [] W):
  CallsIn F n Tryz.prog 93 #[.func (.yield l) #[] #[], .pointer (some ⟨Bs,0,none⟩)] W λe W'=>(∃v,e= .returned v)/\
   ((∃ys,ys=EP (Ix zs) zs.length/\J ys W')\/(∃pre,(∃k,k<=zs.length/\pre=EP (Ix zs) k)/\Jx pre W')):=by
 refine callsIn_of_wp Tryz.func93 rfl h7 ?_ Dw;simp only[Tryz.ntmps93,List.size_toArray,AM,List.length_nil,Nat.reduceAdd,Nat.reduceSub,Array.replicate_succ,Array.replicate_zero,List.push_toArray,List.append_toArray,List.nil_append,List.cons_append];have HC:=Lib.hid hc;obtain⟨len,hlen⟩:∃len,len=zs.length:=⟨_,rfl⟩
 rw[<-hlen]at GJ D6;have HL:=Lib.hid hlen;clear hc hlen
 gi_wp2
 gi_loopw [3] (λi wr=> ∃(k m:Nat) (q:Int),k+m=len/\q=(m:Int)-1/\i= .int .i64 q/\J (EP (Ix zs) k) wr/\Below n₀ W wr)
  (λi _=>(intOf i+1).toNat)
 case atStart=>exact⟨0,len,_,by omega,rfl,rfl,h0,Below.refl _ _⟩
 case round=>
  obtain⟨k,m,q,hkm,hq,rfl,Rr,LQ⟩:=hrel;have iX:wr.cell? ⟨Bs,0,none⟩=some (.slice (some ⟨b,off,none⟩) len cap):=(LQ.cell (p:=⟨Bs,0,none⟩) OA).trans GJ;cases m with
  |succ m=>
   obtain rfl:q=(m:Int):=by omega
   clear hq;have LH:m<zs.length:=by rw[<-HL.out];omega
   have Kd:Ix zs k=(m,vz zs m):=by unfold Ix;rw[show zs.length-1-k=m by rw[<-HL.out];omega]
   have PE:=HC.out m LH;obtain⟨⟨tm,sm,gm⟩,hz⟩:∃x:VT,vz zs m=x:=⟨_,rfl⟩
   rw[hz]at PE Kd;obtain⟨fn,tmps,assign,body,hy,hR⟩:=hY _ (m,tm,sm,gm) wr Rr (by rw[pV,<-HL.out];omega);dsimp only at hy;have ID:=(LQ.cell (p:=⟨b,off+m*3,none⟩) hb).trans PE.1;have BK:=(LQ.cell (p:=⟨b,off+m*3+1,none⟩) hb).trans PE.2.1;have Zj:=(LQ.cell (p:=⟨b,off+m*3+2,none⟩) hb).trans PE.2.2;dsimp only at ID BK Zj;have HB:=Lib.hid Kd;have AA:m<len:=by omega
   clear PE hz Kd LH
   gi_wp2
   refine hR.mono ?_;rintro e W3 (⟨rfl,jD,kL⟩|⟨rfl,Uz⟩)
   ·gi_wp2
    go_roundw
    case rel=>exact⟨k+1,m,_,by omega,rfl,by go_num,by rw[cB,HB.out];exact jD,LQ.trans kL⟩
    case measure=>simp[intOf]
   ·gi_wp2
    refine bodyPost_ret (results_none rfl _ _ _) rfl ?_;exact⟨⟨_,rfl⟩, .inr ⟨_,⟨k+1,by rw[<-HL.out];omega,by rw[cB,HB.out]⟩,Uz⟩⟩
  |zero=>
   obtain rfl:q= -1:=by omega
   clear hq
   gi_wp2
   go_end0
   exact⟨⟨_,rfl⟩, .inl ⟨_,by rw[show k=zs.length by rw[<-HL.out];omega],Rr⟩⟩
set_option maxRecDepth 100000 in
set_option maxHeartbeats 1000000 in
theorem rN(F:Fence)(n:Nat)(h7:F.fn 93)(Dw:F.round=none)(l Bs:Nat)(a:Option Addr)(c:Nat)(J:List (Nat × VT)->World->Prop)(W:World)(GJ:W.cell? ⟨Bs,0,none⟩=some (.slice a 0 c))(h0:J [] W):
  CallsIn F n Tryz.prog 93 #[.func (.yield l) #[] #[], .pointer (some ⟨Bs,0,none⟩)] W λe W'=>(∃v,e= .returned v)/\J [] W':=by
 refine callsIn_of_wp Tryz.func93 rfl h7 ?_ Dw;simp only[Tryz.ntmps93,List.size_toArray,AM,List.length_nil,Nat.reduceAdd,Nat.reduceSub,Array.replicate_succ,Array.replicate_zero,List.push_toArray,List.append_toArray,List.nil_append,List.cons_append]
 gi_wp2
 gi_loopw [3] (λi wr=>i= .int .i64 (-1)/\J [] wr) (λ_ _=>0)
 case atStart=>exact⟨rfl,h0⟩
 case round=>
  obtain⟨rfl,Rr⟩:=hrel
  gi_wp2
  go_end0
  exact⟨⟨_,rfl⟩,Rr⟩
set_option maxHeartbeats 1000000 in
theorem xZ(F:Fence)(n:Nat)(h5:F.fn 69)(Dw:F.round=none)(a:Option Addr)(len cap:Nat)(w:World):
  CallsIn F n Tryz.prog 69 #[.slice a len cap] w λe w'=>e= .returned (.func (.func 93) #[] #[.pointer (some ⟨w.heap.size,0,none⟩)])/\w'=w.alloc (.cells #[.slice a len cap] 79):=by
 refine callsIn_of_wp Tryz.func69 rfl h5 ?_ Dw;simp only[Tryz.ntmps69,List.size_toArray,AM,List.length_nil,Nat.reduceAdd,Nat.reduceSub,Array.replicate_succ,Array.replicate_zero,List.push_toArray,List.append_toArray,List.nil_append,List.cons_append]
 gi_wp2
 go_ret
 exact⟨rfl,rfl⟩
theorem sQ(F:Fence)(n:Nat)(h7:F.fn 93)(Dw:F.round=none)(hn:1<=n)(Bs n₀:Nat)(sv:Value)(zs:List VT)(D6:zs.length*1000<=140737488351232)(w:World)(GJ:Bs<w.heap.size)(OA:Bs<n₀)(lD:n₀<=w.heap.size)
  (hc:w.cell? ⟨Bs,0,none⟩=some sv) (hI:Vers n₀ w sv zs):
  SeqStopsK F n Tryz.prog 93 #[.pointer (some ⟨Bs,0,none⟩)] (λx:Nat × VT=> #[Value.int .i64 (x.1:Int), .agg #[.int .i64 x.2.1, .string x.2.2.1, .bool x.2.2.2]]) (Below n₀) (λys=>ys=EP (Ix zs) zs.length)
   (λpre=> ∃k,k<=zs.length/\pre=EP (Ix zs) k) zs.length w:=λl J Jx W hW _ _ hY h0=>by
 have OO:=(hW.cell (p:=⟨Bs,0,none⟩) GJ).trans hc;rcases hI.below (hW.mono lD)with⟨a,c,rfl,rfl⟩|⟨b,off,cap,rfl,hb,Bb⟩
 ·exact(rN F n h7 Dw l Bs a c J W OO h0).mono λe W' ⟨he,hj⟩=>⟨he, .inl ⟨_,rfl,hj⟩⟩
 ·exact xE F n h7 Dw hn l Bs n₀ b off cap zs D6 hb J Jx hY W OO OA Bb h0
def Fz(time:Int):List VT->ByteArray × Bool
 | []=>(ByteArray.empty,false)
 |x::l=>if x.1<=time then(x.2.1, !x.2.2)else Fz time l
def KY(zs:List VT):List VT:=(EP (Ix zs) zs.length).map (·.2)
theorem XP{time:Int}:∀{ini rest:List VT},(∀p∈ini,¬p.1<=time)->Fz time (ini++rest)=Fz time rest
 | [],_,_=>rfl
 |x::l,rest,h=>by rw[List.cons_append,Fz,if_neg (h x (by simp)),XP λp hp=>h p (by simp[hp])]
theorem tD{α:Type}(f:Nat->α){k n:Nat}(h:k<=n):EP f n=EP f k++(EP f n).drop k:=by
 have:EP f k=(EP f n).take k:=by simp[EP,<-List.map_take,List.take_range,Nat.min_eq_left h]
 rw[this,Bq]
def T8(time:Int)(pre:List (Nat × VT)):Prop:= ∀p∈pre,¬p.2.1<=time
theorem u9{time:Int}{l:List (Nat × VT)}(h:T8 time l):Fz time (l.map (·.2))=(ByteArray.empty,false):=by
 have:=XP (time:=time) (ini:=l.map (·.2)) (rest:=[]) λp hp=>by obtain⟨q,hq,rfl⟩:=List.mem_map.1 hp;exact h q hq
 rw[AE]at this;exact this
theorem xA{time:Int}{zs:List VT}{k:Nat}(hk:k<=zs.length){ini:List (Nat × VT)}{last:Nat × VT}(h1:EP (Ix zs) k=ini++ [last])(h2:T8 time ini)(h3:last.2.1<=time):Fz time (KY zs)=(last.2.2.1, !last.2.2.2):=by
 unfold KY;rw[tD _ hk,h1,List.append_assoc,List.map_append,XP (λp hp=>by obtain⟨q,hq,rfl⟩:=List.mem_map.1 hp;exact h2 q hq)]
 show Fz time (last.2::_)=_;rw[Fz,if_pos h3]
def zvL(time:Int)(s e1 e2:Nat)(pre:List (Nat × VT))(W:World):Prop:= ∃ini last,pre=ini++ [last]/\T8 time ini/\last.2.1<=time/\Boxed W (s+1+1) e1 (.string last.2.2.1)/\Boxed W (s+1+1+1) e2 (.bool !last.2.2.2)
set_option maxRecDepth 100000 in
set_option maxHeartbeats 4000000 in
theorem zvO(F:Fence)(n:Nat)(h4:F.fn 44)(h6:F.fn 69)(h8:F.fn 93)(Dw:F.round=none)(hn:3<=n)(ks:ByteArray)(a:Option Addr)(cap:Nat)(time:Int)(zs:List VT)(D6:zs.length*1000<=140737488351232)(w:World)(hI:Vers w.heap.size w (.slice a zs.length cap) zs):
  CallsIn F n Tryz.prog 44 #[.agg #[.string ks, .slice a zs.length cap], .int .i64 time] w λe W'=>e= .returned (.tuple #[.string (Fz time (KY zs)).1, .bool (Fz time (KY zs)).2])/\Below w.heap.size w W':=by
 have h1:1<=n:=by omega
 refine callsIn_of_wp_marks Tryz.func44 rfl h4 ?_ Dw;simp only[Tryz.ntmps44,List.size_toArray,AM,List.length_nil,Nat.reduceAdd,Nat.reduceSub,Array.replicate_succ,Array.replicate_zero,List.push_toArray,List.append_toArray,List.nil_append,List.cons_append];obtain⟨len,hlen⟩:∃len,len=zs.length:=⟨_,rfl⟩
 rw[<-hlen]at hI ⊢;have HL:=Lib.hid hlen;clear hlen
 gi_wp2_with (gi_at_call 69;refine(xZ F (n-1) h6 Dw _ _ _ _).mono ?_;rintro e w' ⟨rfl,rfl⟩)
 have e1:Boxed ((w.alloc (.cells #[.string ks, .slice a len cap] 81)).alloc (.cells #[.int .i64 time] 3)) (w.heap.size+1) 3 (.int .i64 time):=by have:=Boxed.new (w.alloc (.cells #[.string ks, .slice a len cap] 81)) 3 (.int .i64 time);rwa[World.size_alloc]at this
 have bT:=((e1.alloc (.cells #[.string {data:= #[]}] 9)).alloc (.cells #[.bool false] 4)).alloc (.cells #[.slice a len cap] 79);have e2:=Boxed.new ((w.alloc (.cells #[.string ks, .slice a len cap] 81)).alloc (.cells #[.int .i64 time] 3)) 9 (.string {data:= #[]});have bS:=(e2.alloc (.cells #[.bool false] 4)).alloc (.cells #[.slice a len cap] 79);have e3:=Boxed.new (((w.alloc (.cells #[.string ks, .slice a len cap] 81)).alloc (.cells #[.int .i64 time] 3)).alloc (.cells #[.string {data:= #[]}] 9)) 4 (.bool false);have bG:=e3.alloc (.cells #[.slice a len cap] 79);have bN:=Boxed.new ((((w.alloc (.cells #[.string ks, .slice a len cap] 81)).alloc (.cells #[.int .i64 time] 3)).alloc (.cells #[.string {data:= #[]}] 9)).alloc (.cells #[.bool false] 4)) 79 (.slice a len cap);simp only[World.size_alloc]at bT bS bG bN;have Ut:Below w.heap.size w (((((w.alloc (.cells #[.string ks, .slice a len cap] 81)).alloc (.cells #[.int .i64 time] 3)).alloc (.cells #[.string {data:= #[]}] 9)).alloc (.cells #[.bool false] 4)).alloc (.cells #[.slice a len cap] 79)):=
  (((((Below.refl _ w).alloc (Ar _) _).alloc (by simp) _).alloc (by simp;omega) _).alloc (by simp;omega) _).alloc (by simp;omega) _
 have BB:(((((w.alloc (.cells #[.string ks, .slice a len cap] 81)).alloc (.cells #[.int .i64 time] 3)).alloc (.cells #[.string {data:= #[]}] 9)).alloc (.cells #[.bool false] 4)).alloc (.cells #[.slice a len cap] 79)).heap.size=w.heap.size+5:=by simp
 clear e1 e2 e3;obtain⟨W0,Zf⟩:∃W0,(((((w.alloc (.cells #[.string ks, .slice a len cap] 81)).alloc (.cells #[.int .i64 time] 3)).alloc (.cells #[.string {data:= #[]}] 9)).alloc (.cells #[.bool false] 4)).alloc (.cells #[.slice a len cap] 79))=W0:=⟨_,rfl⟩
 rw[Zf]at bT bS bG bN Ut BB ⊢;clear Zf;have hV:Vers (w.heap.size+5) W0 (.slice a len cap) zs:=(hI.below Ut).mono (by omega);have bk:∀{A B:World} {row:Option Nat} {b t:Nat} {v:Value},Boxed A b t v->A.grownBy B row->(∀r,row=some r-> ∃o,A.heap[r]?=some o/\o.isCells=false)->Boxed B b t v:=λ{A B row b t v} h hg hr=>boxed_own b t (λ(_:Unit)=>v) () A B row h hg hr;refine wpIn_rangeFunc_ownH Dw h1 (gf:=93) (lb:= #[.pointer (some ⟨w.heap.size+1+1+1+1,0,none⟩)]) rfl h8 (enters_of Tryz.func93 (by kernel_rfl) rfl)
  (sQ F (n-1) h8 Dw (by omega) (w.heap.size+1+1+1+1) (w.heap.size+5) _ zs D6 W0 (by omega) (by omega) (by omega) bN.cell hV) belowK_t (belowK_b (by omega)) (Below.refl _ _) (λ_=>rfl)
  (λpre W=>(T8 time pre/\Boxed W (w.heap.size+1) 3 (.int .i64 time)/\Boxed W (w.heap.size+1+1) 9 (.string {data:= #[]})/\Boxed W (w.heap.size+1+1+1) 4 (.bool false)/\Boxed W (w.heap.size+1+1+1+1) 79 (.slice a len cap))/\Below w.heap.size w W)
  (λc pre W=>(c= .ret/\zvL time w.heap.size 9 4 pre W)/\Below w.heap.size w W)
  (OwnFrom.and (Own.from (λs A B row hs hg hr=>⟨hs.1,bk hs.2.1 hg hr,bk hs.2.2.1 hg hr,bk hs.2.2.2.1 hg hr,bk hs.2.2.2.2 hg hr⟩) _) (ownFrom_below (Ar _) (by omega)))
  (λc=>OwnFrom.and (Own.from (λs A B row hs hg hr=>by obtain⟨hc,ini,last,q1,q2,q3,q4,q5⟩:=hs;exact⟨hc,ini,last,q1,q2,q3,bk q4 hg hr,bk q5 hg hr⟩) _) (ownFrom_below (Ar _) (by omega)))
  ⟨⟨λp hp=>by simp at hp,bT,bS,bG,bN⟩,Ut⟩
  (λx a' W=> ∃Bx,w.heap.size+5<=Bx/\W.heap[Bx]?=some (.cells #[.int .i64 x.2.1, .string x.2.2.1, .bool x.2.2.2] 83 (0,0))/\a'={tmps:= #[.agg #[.string ks, .slice a len cap], .int .i64 time, .pointer (some ⟨w.heap.size,0,none⟩), .pointer (some ⟨w.heap.size+1,0,none⟩), .pointer (some ⟨w.heap.size+1+1,0,none⟩), .pointer (some ⟨w.heap.size+1+1+1,0,none⟩),undef, .pointer (some ⟨Bx,0,none⟩), .pointer (some ⟨w.heap.size,1,none⟩), .slice a len cap, .func (.func 93) #[] #[.pointer (some ⟨w.heap.size+1+1+1+1,0,none⟩)], .int .i64 (x.1:Int), .agg #[.int .i64 x.2.1, .string x.2.2.1, .bool x.2.2.2],undef,undef,undef,undef,undef,undef,undef,undef,undef],defers:=[]})
  (λx a' _ X Y row hs hg hr=>by obtain⟨Bx,q1,q2,q3⟩:=hs;refine⟨Bx,q1,(hg.block Bx (Dy q2) λe=> ?_).trans q2,q3⟩;obtain⟨o,ho,lE⟩:=(hr _ e.symm).2;rw[q2]at ho;cases ho;cases lE)
  ?assign ?body ?done ?stop
 case assign=>
  rintro l pre ⟨xj,xt,xs,xg⟩ W K ⟨⟨hp,bT1,bS1,bG1,bN1⟩,J9⟩ hK;have Ru:=World.alloc_heap_new W (.cells #[.int .i64 0, .string {data:= #[]}, .bool false] 83)
  gi_wp2
  exact hK _ _ ((KeepsOthers.alloc _ _).from _) ((Below.refl _ W).alloc (by have:=bN1.lt;omega) _) ⟨⟨hp,bT1.alloc _,bS1.alloc _,bG1.alloc _,bN1.alloc _⟩,J9.alloc J9.size _⟩ ⟨W.heap.size,by have:=bN1.lt;omega,World.alloc_heap_new W _,rfl⟩
 case body=>
  rintro l pre ⟨xj,xt,xs,xg⟩ a' W hl ⟨r,hr⟩ ⟨⟨hp,bT1,bS1,bG1,bN1⟩,J9⟩ ⟨Bx,hBx,jL,rfl⟩ AA;have cT:=bT1.cell;have cS:=bS1.cell;have fS:=bS1.frozen;have cG:=bG1.cell;have fG:=bG1.frozen;have cV:=TB jL;have RF:Tryz.prog.follows .mixedOrders=true:=by kernel_rfl
  gi_wp2
  ·have hx:xt<=time:=by assumption
   gi_region_o
   all_goals gi_wp2
   all_goals first
    |exact⟨(((KeepsOthers.setCell _ _ _).trans (KeepsOthers.setCell _ _ _)).trans (KeepsOthers.drew _)).from _,⟨rfl,pre,(xj,xt,xs,xg),rfl,hp,hx,(bS1.set _).other (by omega) _,(bG1.other (by omega) _).set _⟩,((J9.setCell (p:=⟨w.heap.size+1+1,0,none⟩) (by simp;omega) _).setCell (p:=⟨w.heap.size+1+1+1,0,none⟩) (by simp;omega) _).drew⟩
    |exact⟨(((KeepsOthers.setCell _ _ _).trans (KeepsOthers.setCell _ _ _)).trans (KeepsOthers.drew _)).from _,⟨rfl,pre,(xj,xt,xs,xg),rfl,hp,hx,(bS1.other (by omega) _).set _,(bG1.set _).other (by omega) _⟩,((J9.setCell (p:=⟨w.heap.size+1+1+1,0,none⟩) (by simp;omega) _).setCell (p:=⟨w.heap.size+1+1,0,none⟩) (by simp;omega) _).drew⟩
  ·have hx: ¬xt<=time:=by first|assumption|omega
   refine⟨KeepsFrom.refl _ _,Below.refl _ _,⟨λp hp'=> ?_,bT1,bS1,bG1,bN1⟩,J9⟩;rcases Ae.1 hp' with h|h
   ·exact hp p h
   ·simp only[List.mem_singleton]at h;subst h;exact hx
 case done=>
  rintro D ys W hD rfl ⟨⟨BM,bT1,bS1,bG1,bN1⟩,J9⟩ hK;have cS:=bS1.cell;have fS:=bS1.frozen;have cG:=bG1.cell;have fG:=bG1.frozen
  gi_wp2
  have MR:=((KeepsOthers.setCell W ⟨w.heap.size+1+1,0,none⟩ (.string {data:= #[]})).trans (KeepsOthers.setCell _ ⟨w.heap.size+1+1+1,0,none⟩ (.bool false))).same D _ hK rfl;have b1:=(bS1.set (.string {data:= #[]})).other (show w.heap.size+1+1≠w.heap.size+1+1+1 by omega) (.bool false);have b2:=(bG1.other (show w.heap.size+1+1+1≠w.heap.size+1+1 by omega) (.string {data:= #[]})).set (.bool false);refine⟨by simp, .inl ⟨_,_,rfl,run_takeDeferred MR,?_⟩⟩;have c1:=cell_kept b1.cell (grownBy_putObj' _ D (.deferred none)) (λr e=>by cases e;exact⟨_,MR,rfl⟩);have c2:=cell_kept b2.cell (grownBy_putObj' _ D (.deferred none)) (λr e=>by cases e;exact⟨_,MR,rfl⟩);refine⟨.tuple #[.string {data:= #[]}, .bool false],?_,by rw[show KY zs=(EP (Ix zs) zs.length).map (·.2)from rfl,u9 BM];rfl,((J9.setCell (p:=⟨w.heap.size+1+1,0,none⟩) (by simp;omega) _).setCell (p:=⟨w.heap.size+1+1+1,0,none⟩) (by simp;omega) _).trans (belowK_b (w:=w) (Ar _) _ D _ _ (by omega) MR rfl rfl)⟩;simp[results,Tryz.f44,go_sem,c1,c2]
 case stop=>
  rintro D c pre W hD ⟨k,hk,rfl⟩ ⟨⟨rfl,ini,last,q1,q2,q3,q4,q5⟩,hB⟩ hK
  gi_wp2
  refine⟨by simp, .inl ⟨_,_,rfl,run_takeDeferred hK,?_⟩⟩;have c1:=cell_kept q4.cell (grownBy_putObj' _ D (.deferred none)) (λr e=>by cases e;exact⟨_,hK,rfl⟩);have c2:=cell_kept q5.cell (grownBy_putObj' _ D (.deferred none)) (λr e=>by cases e;exact⟨_,hK,rfl⟩);refine⟨.tuple #[.string last.2.2.1, .bool !last.2.2.2],?_,by rw[xA hk q1 q2 q3],hB.trans (belowK_b (w:=w) (Ar _) W D _ _ (by omega) hK rfl rfl)⟩;simp[results,Tryz.f44,go_sem,c1,c2]
end Go.Proofs.YteeafhlnofapaaaGreat
end
section
namespace Go.Proofs.YteeafhlnofapaaaGreat
open Go.RowKit
set_option maxRecDepth 100000
theorem zA{w:World}{v:Value}{ys:List AV}{f:List Nat}{K:Nat}(h:Rd w [v] [.sl ys] f)(hK:∀y∈ys,y.cells.length=K)(hb:ys.length<=9223372036854775807):
  ∃a c cs f1,v= .slice a ys.length c/\Src w K a ys.length cs/\Rd w cs (Am ys) f1/\ ∀b∈f1,b∈f:=by
 cases h with
 |db h=>
  rename_i a c;refine⟨a,c,[],[],rfl,?_,by simpa[Am]using Rd.nil,by simp⟩;cases a with
  |none=>exact .inl ⟨rfl,rfl,rfl⟩
  |some ad=>exact .inr ⟨ad,rfl,by simp,by simp,by simp⟩
 | @scons b o n c ys cs C ty fz sz f1 vs xs f2 q1 q2 q3 q4 q5 q6 q7 q8 q9 q10=>
  subst q4;have BB:sz=K:=by
   cases ys with
   |nil=>simp at q2
   |cons y ys=>rw[<-q5 y (by simp),hK y (by simp)]
  subst BB;refine⟨some ⟨b,o,none⟩,c,cs,f1,rfl, .inr ⟨⟨b,o,none⟩,rfl,?_,λj u hj=> ?_,q8⟩,q9,λx hx=>by simp[hx]⟩
  ·rw[q9.len,IQ _ hK]
  ·rw[Addr.add_lit,DR q1];exact q7 j u hj
def M4(z:VT):BJ:=⟨z.1,z.2.1.data.toList,z.2.2⟩
def MB(zs:List VT):List Value:=zs.flatMap λz=> [.int .i64 z.1, .string z.2.1, .bool z.2.2]
theorem xL{w:World}{b:Bool}{vs:List Value}{xs:List AV}{f:List Nat}(h:Rd w vs (.bool b::xs) f):∃us:List Value,vs= .bool b::us/\Rd w us xs f:=by
 cases h with
 |bool h=>exact⟨_,rfl,h⟩
theorem fN{w:World}:∀{vers:List BJ} {cs:List Value} {f:List Nat},Rd w cs (Am (vers.map KZ)) f-> ∃zs:List VT,cs=MB zs/\vers=zs.map M4/\ ∀z∈zs,z.2.1.size<=9223372036854775807
 | [],cs,f,h=>by have:Am (([]:List BJ).map KZ)=[]:=rfl;rw[this]at h;obtain⟨rfl,_⟩:=Yk h;exact⟨[],rfl,rfl,by simp⟩
 |x::xs,cs,f,h=>by
  have e:Am ((x::xs).map KZ)= .int .i64 x.ab:: .str x.ar:: .bool x.al::Am (xs.map KZ):=by simp[Am,KZ,AV.cells]
  rw[e]at h;obtain⟨us,rfl,hk,h1⟩:=T1 h;obtain⟨s,us,rfl,hs,hn,h2⟩:=YB h1;obtain⟨us,rfl,h3⟩:=xL h2;obtain⟨zs,rfl,hz,V8⟩:=fN h3;refine⟨(x.ab,s,x.al)::zs,rfl,by rw[List.map_cons,<-hz];congr 1;unfold M4;rw[hs],λz Ho=> ?_⟩;rcases Ac.1 Ho with rfl|Ho
  ·exact hn
  ·exact V8 z Ho
theorem yO{w:World}{a:Option Addr}{n c:Nat}{ys:List AV}{f:List Nat}(h:Rd w [.slice a n c] [.sl ys] f)(hn:0<n):∃b o,a=some ⟨b,o,none⟩/\b<w.heap.size:=by
 cases h with
 |db h=>omega
 |scons q1=>exact⟨_,_,rfl,Dy q1⟩
theorem dC:∀(zs:List VT) (j:Nat),j<zs.length->(MB zs)[j*3]?=some (.int .i64 (vz zs j).1)/\(MB zs)[j*3+1]?=some (.string (vz zs j).2.1)/\(MB zs)[j*3+2]?=some (.bool (vz zs j).2.2)
 | [],j,h=>by simp at h
 |z::zs,0,_=>by simp[MB,vz]
 |z::zs,j+1,h=>by
  have ih:=dC zs j (by simpa using h);have e:MB (z::zs)=[.int .i64 z.1, .string z.2.1, .bool z.2.2]++MB zs:=rfl;have ev:vz (z::zs) (j+1)=vz zs j:=by simp[vz]
  rw[e,ev];refine⟨?_,?_,?_⟩
  ·rw[List.getElem?_append_right (by simp;omega),show(j+1)*3- [Value.int .i64 z.1, .string z.2.1, .bool z.2.2].length=j*3 by simp;omega];exact ih.1
  ·rw[List.getElem?_append_right (by simp;omega),show(j+1)*3+1- [Value.int .i64 z.1, .string z.2.1, .bool z.2.2].length=j*3+1 by simp;omega];exact ih.2.1
  ·rw[List.getElem?_append_right (by simp;omega),show(j+1)*3+2- [Value.int .i64 z.1, .string z.2.1, .bool z.2.2].length=j*3+2 by simp;omega];exact ih.2.2
theorem XV(zs:List VT):KY zs=zs.reverse:=by
 unfold KY EP Ix;rw[List.map_map];apply List.ext_getElem
 ·simp
 ·intro i h1 h2;have hi:i<zs.length:=by simpa using h1
  simp[vz,hi,show zs.length-1-i<zs.length by omega]
def E5(t:Int):List BJ->List UInt8 × Bool
 | []=>([],false)
 |v::l=>if v.ab<=t then(v.ar, !v.al)else E5 t l
theorem fM(t:Int):∀(zs:List VT),(Fz t zs).1.data.toList=(E5 t (zs.map M4)).1/\(Fz t zs).2=(E5 t (zs.map M4)).2
 | []=>⟨rfl,rfl⟩
 |z::zs=>by
  rw[Fz,List.map_cons,E5];show _=(if z.1<=t then(z.2.1.data.toList, !z.2.2)else E5 t (zs.map M4)).1/\_=(if z.1<=t then(z.2.1.data.toList, !z.2.2)else E5 t (zs.map M4)).2;split
  ·exact⟨rfl,rfl⟩
  ·exact fM t zs
theorem dY(t:Int):∀{zs:List VT},(∀z∈zs,z.2.1.size<=9223372036854775807)->(Fz t zs).1.size<=9223372036854775807
 | [],_=>by simp[Fz]
 |z::zs,h=>by
  rw[Fz];split
  ·exact h z (by simp)
  ·exact dY t λy hy=>h y (by simp[hy])
def iA(P:Program)(sg:BE)(f np:Nat)(r:AV):Bool:=
 match P.funcs[f]?,sg f with
 |some fn,some s=>fn.body.isSome&& !(fn.name== "runtime.NumGoroutine")&&JI P fn s r&&s.bh.all (λm=>match m with| .ro=>true|_=>false)&&fn.params.size==np&&fn.nfree==0&&(s.ft.isEmpty&&s.lo.isEmpty)&&(match fn.resultTypes.toList with| [t,u]=> !FJ P t s.res&& !FJ P u (s.res.drop (AW P t).length)|_=>false)
 |_,_=>false
theorem wN{f:Nat}{xs:List AV}{r1 r2:AV}(hk:iA Tryz.prog Cp f xs.length (.tup [r1,r2])=true)(hc:∀(w:World) (vs:List Value) (rf:List Nat),Rd w vs xs rf->Calls Tryz.prog f vs.toArray w λe w'=>Mod [] w w'/\ ∃v1 v2,e= .returned (.tuple #[v1,v2])/\Rd w' [v1] [r1] []/\Rd w' [v2] [r2] []):Cr Tryz.prog Cp f xs (.tup [r1,r2]):=by
 unfold iA at hk;split at hk
 ·rename_i fn s hf hs;simp only[Ad,Bh,AB,Bg]at hk;obtain⟨⟨⟨⟨⟨⟨⟨h1,h2⟩,h3⟩,h4⟩,h5⟩,h6⟩,CV⟩,h7⟩:=hk;obtain⟨CV,BN⟩:s.ft=[]/\s.lo=[]:=by simpa using CV
  have Dw:∀m∈s.bh,m= .ro:=λm hm=>by
   have:=h4 m hm;split at this
   ·rfl
   ·cases this
  unfold Cr;rw[if_pos (My f s hs)];refine⟨s,hs,fn,hf,h1,h2,h3,by omega,by simp[CV],λw vs rf lf A1 Ai hd _ BT DO=> ?_⟩;obtain⟨hr,rfl⟩:=Ai.rd BN Dw;refine(hc w vs rf hr).mono ?_;rintro e w' ⟨hm,v1,v2,rfl,q1,q2⟩;refine⟨_,rfl,⟨⟨.tup [r1,r2],[],[],[],[],[],rfl,?_,Da.gn ?_ Dw,by simp,by simp,by simp⟩,hm⟩⟩
  ·unfold Iz;split at h7
   ·rename_i t u ht;simp only[Ad,Bh]at h7;rw[ht];refine⟨[v1,v2],[r1,r2],rfl,rfl,?_⟩;have e1:Ee Tryz.prog w' t s.res v1 r1 [] []:=by unfold Ee;rw[if_neg (by simpa using h7.1)];exact⟨q1,rfl⟩
    have e2:Ee Tryz.prog w' u (s.res.drop (AW Tryz.prog t).length) v2 r2 [] []:=by unfold Ee;rw[if_neg (by simpa using h7.2)];exact⟨q2,rfl⟩
    simpa using Is.cons e1 (Is.cons e2 .nil)
   ·cases h7
  ·rw[hr.len];simp[CV];omega
 ·cases hk
noncomputable def Sl(c:Ag)(t:Int):Option (List UInt8 × Bool):=req (c.af.length*1000<=140737488351232) (some (E5 t c.af.reverse))
theorem oE(a0:Ag)(a1:Int)(r:List UInt8 × Bool)(h:Sl a0 a1=some r):Cr Tryz.prog Cp 44 [Yv a0, .int .i64 a1] (.tup [.str r.1, .bool r.2]):=by
 obtain⟨hb,h⟩:=GG h;cases h;refine wN (by kernel_rfl) λw vs rf hr=> ?_;have hl:=hr.len
 match vs,hl with
 | [v0,v1],_=>
  obtain⟨f1,f2,rfl,h0,h1⟩:=hr.bd;obtain⟨us,e1,hI,h1⟩:=T1 h1;cases e1;obtain⟨as_,rfl,h9,As⟩:=Hv h0 (cs:=[.str a0.ae, .sl (a0.af.map KZ)]) rfl;obtain⟨ks,us,rfl,_,_,As⟩:=YB As;have MV:=As.len
  match us,MV with
  | [sv],_=>
   obtain⟨a,c,cs,f3,rfl,hs,lN,_⟩:=zA (K:=3) As (λy hy=>by obtain⟨x,_,rfl⟩:=List.mem_map.1 hy;rfl) (by simp;omega);obtain⟨zs,rfl,hz,V8⟩:=fN lN;have M0:a0.af.length=zs.length:=by rw[hz];simp
   rw[List.length_map,M0]at hs ⊢;rw[M0]at hb;have Uy:Go.Proofs.YteeafhlnofapaaaGreat.Vers w.heap.size w (.slice a zs.length c) zs:=by
    rcases Nat.eq_zero_or_pos zs.length with Y1|Y1
    ·have:zs=[]:=List.eq_nil_of_length_eq_zero Y1;subst this;exact .inl ⟨a,c,rfl,rfl⟩
    ·obtain⟨b,o,ha,jS⟩:=yO As (by rw[List.length_map];omega);rcases hs with⟨h,_⟩|⟨ad,h,_,Bz,_⟩
     ·rw[h]at ha;cases ha
     ·rw[h]at ha;cases ha;subst h;refine .inr ⟨b,o,c,rfl,jS,λj hj=> ?_⟩;obtain⟨w1,w2,w3⟩:=dC zs j hj;refine⟨?_,?_,?_⟩
      ·have:=Bz _ _ w1;rwa[Addr.add_lit]at this
      ·have:=Bz _ _ w2;rwa[Addr.add_lit]at this
      ·have:=Bz _ _ w3;rwa[Addr.add_lit]at this
   have hc:=(callsIn_wide (n:=3)).1 (zvO Fence.wide 3 trivial trivial trivial rfl (Ar _) ks a c a1 zs hb w Uy);refine hc.mono ?_;rintro e w' ⟨rfl,hB⟩;obtain⟨z1,z2⟩:=fM a1 (KY zs);rw[XV,List.map_reverse,<-hz]at z1 z2;refine⟨Mod.gj hB (Ar _),_,_,rfl,?_,?_⟩
   ·rw[<-z1,XV];exact .str (dY a1 λz Ho=>V8 z (by simpa using Ho)) .nil
   ·rw[<-z2,XV];exact .bool .nil
end Go.Proofs.YteeafhlnofapaaaGreat
end

/- Parts of a proof, joined: DA, DB, MA, MB, OB, OG, QA, QO, MC, MD, QT, TF, HB, SP, HL, IA, IC, ID, IE, IF, IG, IB, SB, SW, SQ, NA, PK, SI, GR, GQ, GF, QM, QF1, QF2, QR, NE, N5, NK, NP. -/
import Derived.Test.YteeafhlnofapaaaJ6
import Derived.Test.YteeafhlnofapaaaProg
import Derived.Test.YteeafhlnofapaaaChecked
import Derived.Shelf.Small.Bits
import Derived.Shelf.Small.Strs
import Derived.Shelf.Small.Wraps
import Derived.Shelf.Strconv.Itoa0
import Derived.Shelf.Strings.Search1
import Derived.Ground.Names2Prog
import Derived.Shelf.Slices.SearchI
import Derived.Laws.CopyRow
import Derived.Lib.AppendZerosOnto
import Derived.Lib.Overlaps
import Derived.Lib.SliceRun
import Derived.Lib.SlicesDelete
import Derived.Shelf.RegionOpenPlain
import Derived.Deep.RegionLaw
import Derived.Shelf.GgSortFunc.InsertionK
import Derived.StillTailTactics
import Derived.Deep.QuietTactic
import Derived.Sort.Grow
import Derived.Shelf.SlGeneric
import Derived.Shelf.SlLaysF0
import Derived.Ground.SlsfProg
import Derived.Shelf.SlSortCmp.NoneTotal
import Derived.Shelf.Spec.SlicesGrow
set_option linter.unusedVariables false
set_option linter.unusedSimpArgs false
noncomputable section
namespace Go.Proofs.Yteeafhlnofapaaa
open Go.RowKit
abbrev AL:=List UInt8
def WB(t:TypeId):List Bool:=(AR Try.prog t).map λu=>match Cb Try.prog u with|some e=>BI Try.prog e|none=>false
def aG(u:TypeId):List Bool:=if u=38 then []else WB u
def rE(fn:Func):FT:={bg:=fn.params.toList.map λt=>match Im Try.prog t with|some u=> .bx (aG u) (aG u)|none=> .ro,res:=fn.resultTypes.toList.flatMap WB}
def qV(f:Nat):Option FT:=
 match f with
 |5=>some {bg:=[],res:=[]}
 |8=>some {bg:=[.ro, .ro, .ro],res:=[]}
 |11=>some {bg:=[.bx [] []],res:=[true],dp:=true}
 |13=>some {bg:=[.bx [] []],res:=[true],dp:=true}
 |16=>some {bg:=[.va [false,false,true]],res:=[false,false,true,false]}
 |19=>some {bg:=[.ro],res:=[]}
 |20=>some {bg:=[.ro, .ro, .ro, .ro],res:=[]}
 |25=>some {bg:=[.ro, .ro, .ro],res:=[true,false],dp:=true,wn:=true}
 |29=>some {bg:=[.mu [true], .ro],res:=[]}
 |33=>some {bg:=[.ro, .ro],res:=[]}
 |38=>some {bg:=[.va [true], .ro],res:=[true]}
 |40=>some {bg:=[.ro],res:=[true],dp:=true}
 |47=>some {bg:=[.mu [true], .ro, .ro, .ro, .ro],res:=[]}
 |66=>some {bg:=[.mu [true], .ro, .ro, .ro],res:=[]}
 |67=>some {bg:=[.mu [true], .ro, .ro, .ro],res:=[]}
 |68=>some {bg:=[.mu [true], .ro, .ro, .ro],res:=[]}
 |69=>some {bg:=[.mu [true], .ro, .ro, .ro],res:=[]}
 |70=>some {bg:=[.mu [true], .ro, .ro, .ro],res:=[]}
 |71=>some {bg:=[.mu [true], .ro, .ro, .ro],res:=[]}
 |72=>some {bg:=[.mu [true], .ro, .ro, .ro, .ro],res:=[]}
 |73=>some {bg:=[.mu [true], .ro, .ro, .ro, .ro],res:=[]}
 |85=>some {bg:=[.mu [true], .ro, .ro, .ro, .ro],res:=[]}
 |88=>some {bg:=[.mu [true], .ro, .bx [false] [false], .ro],res:=[]}
 |89=>some {bg:=[.mu [true], .ro, .ro, .ro, .bx [false] [false], .ro],res:=[]}
 |91=>some {bg:=[.mu [true], .ro, .ro, .bx [false] [false], .ro],res:=[]}
 |112=>some {bg:=[.ro],res:=[]}
 |_=>none
def aO(f:Nat):Option FT:=match Try.prog.funcs[f]? with
 |some fn=>some ((qV f).getD (rE fn))
 |none=>none
def CH:Br:={f:=aO}
theorem qE:Try.prog.follows .mixedOrders=true:=by kernel_rfl
theorem qZ:Try.prog.funcs.size<1000000:=by
 have:(decide (Try.prog.funcs.size<1000000))=true:=by kernel_rfl
 exact of_decide_eq_true this
theorem MN(f:Nat)(s:FT)(h:CH f=some s):f<1000000:=by
 simp only[CH]at h;unfold aO at h;split at h
 ·rename_i fn hf;have:=(Array.getElem?_eq_some_iff.1 hf).1;exact Nat.lt_trans this qZ
 ·cases h
def Sp(P:Program)(sg:Br)(f:Nat)(xs:List AV)(r:AV):Bool:=
 match P.funcs[f]?,sg f with
 |some fn,some s=> !(fn.name== "runtime.NumGoroutine")&&J1 P fn s r&&xs.length==fn.params.size+fn.nfree
 |_,_=>false
abbrev Den(t:Tr)(r:AV)(xs:List AV):Prop:=t.den (CI Try.prog CH) (λr'=>r'=r) (λ_ _ _ _=>False) [] xs
theorem V6{f:Nat}{t:Tr}{xs:List AV}{r:AV}(hc:PZ Try.prog CH f=some t)(hk:Sp Try.prog CH f xs r=true)(hd:Den t r xs):CI Try.prog CH f xs r:=by
 unfold Sp at hk;split at hk
 ·rename_i fn s hf hs;simp only[Ad,Bn,AA]at hk;unfold CI;rw[if_pos (MN f s hs)];exact⟨s,hs,nX qE MN hf hs hk.1.1 hc hk.1.2 hk.2 hd⟩
 ·cases hk
section
variable {Rt:Nat->List AV->AV->Prop} {R:AV->Prop} {L:LK} {js:List JK} {ρ:List AV}
theorem mL{i:EL}{b k:Tr}(hL:HN L)(I:Nat->List AV->Prop){m:Nat}(h0:I m (i.den ρ))(E9:∀m vs,I m vs->b.den Rt R L ((λus=> ∃m',m'<m/\I m' us)::(λus=>k.den Rt R L js (ρ++us))::js) (ρ++vs)):(Tr.loop i b k).den Rt R L js ρ:=by
 have hb:∀W W':JK,(∀vs,W vs->W' vs)-> ∀vs,b.den Rt R L (W::(λus=>k.den Rt R L js (ρ++us))::js) (ρ++vs)->b.den Rt R L (W'::(λus=>k.den Rt R L js (ρ++us))::js) (ρ++vs):=
  λW W' hW vs hv=>b.dz hL hv (.cons hW (Dn.refl _))
 have mono:∀n vs,G4 (λW vs=>b.den Rt R L (W::(λus=>k.den Rt R L js (ρ++us))::js) (ρ++vs)) n vs-> ∀n',n<=n'->G4 (λW vs=>b.den Rt R L (W::(λus=>k.den Rt R L js (ρ++us))::js) (ρ++vs)) n' vs:=by
  intro n
  induction n with
  |zero=>intro vs h;exact h.elim
  |succ n ih=>
   intro vs h n' hn;cases n' with
   |zero=>omega
   |succ n'=>exact hb _ _ (λus hu=>ih us hu n' (by omega)) vs h
 have key:∀m vs,I m vs->G4 (λW vs=>b.den Rt R L (W::(λus=>k.den Rt R L js (ρ++us))::js) (ρ++vs)) (m+1) vs:=by
  intro m
  induction m using Nat.strongRecOn with
  |_ m ih=>intro vs hI;exact hb _ _ (λus ⟨m',hm,hu⟩=>mono _ _ (ih m' hm us hu) m (by omega)) vs (E9 m vs hI)
 exact⟨m+1,key m _ h0⟩
theorem jF:HN (λ_ _ _ _=>False):=λ_ _ _ _ _ _ h=>h
end
@[simp] theorem sN(ρ:List AV):A0 ρ []↔True:=⟨λ_=>trivial,λ_=>DY ρ⟩
@[simp] theorem sM(ρ:List AV)(x:E)(b:Bool)(gs:Gd):A0 ρ ((x,b)::gs)↔x.den ρ= .bool b/\A0 ρ gs:=
 ⟨λh=>⟨h (x,b) (by simp),λg hg=>h g (by simp[hg])⟩,λh g hg=>by rcases Ac.1 hg with rfl|hg;exact h.1;exact h.2 g hg⟩
attribute [simp] E.den EL.den Cn.den AV.fld AV.proj AV.deref AV.len AV.slen AV.idx AV.nth AV.di AV.fu AV.conv AV.bin AV.bbin AV.sbin AV.app AV.cu AV.rep
@[simp] theorem sJ(cs:List AV):(AV.agg cs).cells=cs:=rfl
@[simp] theorem sH(k:IntKind)(n:Int):(AV.int k n).cells=[.int k n]:=rfl
@[simp] theorem sD(b:Bool):(AV.bool b).cells=[.bool b]:=rfl
@[simp] theorem sK(s:AL):(AV.str s).cells=[.str s]:=rfl
@[simp] theorem sI(xs:List AV):(AV.sl xs).cells=[.sl xs]:=rfl
@[simp] theorem sE(k:IntKind)(n:Int):(AV.int k n).scalar=true:=rfl
@[simp] theorem sF(b:Bool):(AV.bool b).scalar=true:=rfl
@[simp] theorem sC(s:AL):(AV.str s).scalar=true:=rfl
@[simp] theorem sG(b c d:Bool):AV.cond (.bool b) (.bool c) (.bool d)= .bool (bif b then c else d):=by cases b<;>rfl
theorem sB{y:AV}(h:y.scalar=true):y.cells=[y]:=by cases y<;>first|rfl|simp[AV.scalar]at h
theorem D1{n:Int}(h1: -9223372036854775808<=n)(h2:n<=9223372036854775807):IntKind.i64.wrap n=n:=by rw[IntKind.wrap_i64];omega
end Go.Proofs.Yteeafhlnofapaaa
end
noncomputable section
namespace Go.Proofs.Yteeafhlnofapaaa
open Go.RowKit
section
variable {Rt:Nat->List AV->AV->Prop} {R:AV->Prop} {L:LK} {js:List JK} {ρ:List AV}
theorem Mv{gs:Gd}{c:Cn}{k:Tr}(h:A0 ρ gs->c.den ρ)(hk:k.den Rt R L js ρ):(Tr.bu gs c k).den Rt R L js ρ:=⟨h,hk⟩
theorem oB{gs:Gd}{f:Nat}{args:EL}{k:Tr}{r:AV}(h:A0 ρ gs->Rt f (args.den ρ) r)(hk:k.den Rt R L js (ρ++ [r])):(Tr.call gs (.inl f) args k).den Rt R L js ρ:=⟨r,h,hk⟩
theorem lX{gs:Gd}{x:E}{args:EL}{k:Tr}{r:AV}(h:A0 ρ gs-> ∃g caps,x.den ρ= .fn g caps/\Rt (1000000+g) (args.den ρ++caps) r/\ ∀y∈r.cells,y.scalar=true)(hk:k.den Rt R L js (ρ++ [r])):(Tr.call gs (.inr x) args k).den Rt R L js ρ:=⟨r,h,hk⟩
theorem R0{c:E}{a b:Tr}{t:Bool}(h:c.den ρ= .bool t)(ha:t=true->a.den Rt R L js ρ)(hb:t=false->b.den Rt R L js ρ):(Tr.ite c a b).den Rt R L js ρ:=⟨t,h,ha,hb⟩
theorem VN{r:E}(h:R (r.den ρ)):(Tr.ret r).den Rt R L js ρ:=h
theorem mG{es:EL}{j:JK}(h:j (es.den ρ)):(Tr.jmp 0 es).den Rt R L (j::js) ρ:=h
theorem oC{es:EL}{i j:JK}(h:j (es.den ρ)):(Tr.jmp 1 es).den Rt R L (i::j::js) ρ:=h
end
def ZC(cn:Nat)(xs:List AV):Prop:= ∀x∈xs,∃cs,x= .agg cs/\cs.length=cn
theorem ZC.at{cn:Nat}{xs:List AV}(h:ZC cn xs){q:Nat}(hq:q<xs.length):∃cs,xs[q]= .agg cs/\cs.length=cn:=h _ (Bh hq)
section
variable {Rt:Nat->List AV->AV->Prop} {R:AV->Prop} {L:LK} {js:List JK} {ρ:List AV} {α β σ τ:Type}
end
@[simp] def PY(n:Int):AV:= .int .u8 n
@[simp] def rH(x:AL):AV:= .str x
attribute [simp] D0 MP AV.sidx AV.aeq AV.leq AV.seq AV.sk AV.ct AV.bytes AV.text
end Go.Proofs.Yteeafhlnofapaaa
end
noncomputable section
namespace Go.Proofs.Yteeafhlnofapaaa
open Go.RowKit
section
variable {P:Program} {w:World}
theorem CV.fm{ts:List TypeId}{vs:List Value}{xs:List AV}{rf lf hs:List Nat}(h:CV P w ts [] [] vs xs rf lf hs):∀(ms:List PM) (lo:List Bool),(∀m∈ms,m= .ro)->CV P w ts ms lo vs xs rf lf hs:=by
 generalize hm:([]:List PM)=m0 at h;generalize hn:([]:List Bool)=n0 at h
 induction h with
 |nil=>intro ms lo _;exact .nil
 |lent h1 _ _ _ _=>subst hn;cases h1
 | @cons t ts ms' lo' v vs x xs f h rf lf hs AS _ ih=>
  subst hm;subst hn;intro ms lo DL;refine .cons ?_ (ih rfl rfl ms.tail lo.tail λm hm=>DL m (List.mem_of_mem_tail hm));have:ms.headD .ro= .ro:=by cases ms with|nil=>rfl|cons m ms=>exact DL m (by simp)
  rw[this];exact AS
 |free h1 _ ih=>subst hm;subst hn;intro ms lo DL;exact .free h1 (ih rfl rfl ms.tail lo.tail λm hm=>DL m (List.mem_of_mem_tail hm))
theorem C5.fm{ts:List TypeId}{ms:List PM}{vs:List Value}{Bs:List AV}{f o:List Nat}(h:C5 P w ts ms vs Bs f o)(DL:∀m∈ms,m= .ro):C5 P w ts [] vs Bs f o:=by
 have hd:∀{ms:List PM},(∀m∈ms,m= .ro)->ms.headD .ro= .ro:=by intro ms h;cases ms with|nil=>rfl|cons m ms=>exact h m (by simp)
 induction h with
 |nil=>exact .nil
 |ro _ _ ih=>exact .ro rfl (ih λm hm=>DL m (List.mem_of_mem_tail hm))
 |va h9 _ _=>rw[hd DL]at h9;cases h9
 |mu h9 _ _ _ _=>rw[hd DL]at h9;cases h9
 |bx h9 _ _ _ _ _ _ _ _=>rw[hd DL]at h9;cases h9
end
def VZ(f:Nat)(r:AV):Bool:=
 match Try.prog.funcs[f]?,CH f with
 |some fn,some s=>s.bg.all (λm=>match m with| .ro=>true|_=>false)&&s.ft.isEmpty&&(match fn.resultTypes.toList with| [t]=> !FM Try.prog t s.res|_=>false)&&J1 Try.prog fn {bg:=[],res:=[]} r
 |_,_=>false
theorem lV{f:Nat}{xs:List AV}{r:AV}(h:CI Try.prog CH f xs r)(hp:VZ f r=true):CI Try.prog CH (1000000+f) xs r:=by
 unfold VZ at hp;split at hp
 ·rename_i fn s hf hs;simp only[Ad,Bz]at hp;obtain⟨⟨⟨h1,Dr⟩,h2⟩,h3⟩:=hp;have Dr:s.ft=[]:=by simpa using Dr
  have IL:∀m∈s.bg,m= .ro:=λm hm=>by
   have:=h1 m hm;split at this
   ·rfl
   ·cases this
  unfold CI at h ⊢;rw[if_pos (MN f s hs)]at h;rw[if_neg (by omega),Nat.add_sub_cancel_left];obtain⟨s',AY,fn',Ny,hb,hn,_,hl,_,hc⟩:=h;rw[hs]at AY;cases AY;rw[hf]at Ny;cases Ny;rw[Dr]at hc;refine⟨fn,hf,hb,hn,h3,hl,by simp,λw vs rf lf AY Ai hd bU BP DP=>(hc w vs rf lf AY (Ai.fm _ _ IL) hd bU BP DP).mono ?_⟩;rintro e w' ⟨v,rfl,⟨R,Bs,f1,o1,f2,o2,e1,e2,e3,e4,e5,e6⟩,hm⟩;rw[Dr]at e3;refine⟨v,rfl,⟨R,Bs,f1,o1,f2,o2,e1,?_,e3.fm IL,e4,e5,e6⟩,hm⟩;unfold Io at e2 ⊢;split at h2
  ·rename_i t ht;rw[ht]at e2 ⊢;simp only at e2 ⊢;unfold EN at e2 ⊢;have h2:FM Try.prog t s.res=false:=by simpa using h2
   rw[if_neg (by rw[h2];simp)]at e2;rw[if_neg (by simp[FM])];exact e2
  ·cases h2
 ·cases hp
section
variable {Rt:Nat->List AV->AV->Prop} {R:AV->Prop} {L:LK} {js:List JK} {ρ:List AV}
theorem mU{i:EL}{b k:Tr}(hL:HN L)(n:Nat)(st:Nat->List AV)(J:Nat->Prop)(hJ:J 0)(h0:i.den ρ=st 0)(hb:∀q,q<=n->J q-> ∀W:JK,(q<n->J (q+1)->W (st (q+1)))->b.den Rt R L (W::(λus=>k.den Rt R L js (ρ++us))::js) (ρ++st q)):(Tr.loop i b k).den Rt R L js ρ:=by refine mL hL (λm vs=> ∃q,q+m=n/\vs=st q/\J q) (m:=n) ⟨0,by omega,h0,hJ⟩ ?_;rintro m vs ⟨q,hq,rfl,hj⟩;exact hb q (by omega) hj _ λAE Jy=>⟨m-1,by omega,q+1,by omega,rfl,Jy⟩
end
def Wn(cn:Nat):Tr:=
 .bu [] (.dfd (.len (.var 0)))<|
 .loop (.cons (.int .i64 (0)) .nil) (
  .bu [] (.dfd (.bin .lss (.var 2) (.len (.var 0))))<|
  .ite (.bin .lss (.var 2) (.len (.var 0))) (
  .bu [] (.inb (.var 2) (.var 0) cn)<|
  .call [] (.inr (.var 1)) (.cons (.fld (.idx (.var 0) (.var 2)) 0 cn true) .nil)<|
  .ite (.var 3) (
   .ret (.var 2)) (
   .bu [] (.dfd (.bin .add (.var 2) (.int .i64 (1))))<|
   .jmp 0 (.cons (.bin .add (.var 2) (.int .i64 (1))) .nil))) (
  .jmp 1 .nil)) (
  .ret (.int .i64 (-1)))
def Kd{α:Type}(p:α->Option Bool):List α->Int->Option Int
 | [],_=>some (-1)
 |x::xs,i=>(p x).bind λb=>if b=true then some i else Kd p xs (i+1)
def OU{α:Type}(xs:List α)(p:α->Option Bool):Option Int:=req (xs.length<=9223372036854775806) (Kd p xs 0)
def Lc{α:Type}(xs:List α)(p:α->Option Bool):Option Bool:=(OU xs p).bind λi=>some (decide (i>=0))
theorem l4{α:Type}{p:α->Option Bool}{l:List α}{r:Int}{q:Nat}(hq:q<l.length)(h:Kd p (l.drop q) q=some r):∃b,p l[q]=some b/\(b=true->r=q)/\(b=false->Kd p (l.drop (q+1)) ((q+1:Nat):Int)=some r):=by
 rw[A7 hq]at h;obtain⟨b,hb,h⟩:=MW h;refine⟨b,hb,?_,?_⟩
 ·rintro rfl;simpa using h.symm
 ·rintro rfl;simpa using h
theorem oW{α:Type}{av:α->AV}{l:List α}{p:α->Option Bool}{cn g:Nat}{caps:List AV}{r:Int}(hs:∀x,∃cs,av x= .agg cs/\cs.length=cn)(h:OU l p=some r)(hf:∀x b,p x=some b->CI Try.prog CH (1000000+g) (av x::caps) (.bool b)):Den (Wn cn) (.int .i64 r) [.sl (l.map av), .fn g caps]:=by
 obtain⟨hn,h⟩:=HT h;unfold Den Wn;refine Mv (by simp) ?_;refine mU jF l.length (λq=> [.int .i64 q]) (λq=>Kd p (l.drop q) q=some r) (by simpa using h) (by simp) λq hq hJ W hW=> ?_;by_cases AE:q<l.length
 ·obtain⟨cs,hc,hl⟩:=hs l[q];obtain⟨b,hb,Hc,FW⟩:=l4 AE hJ;refine Mv (by simp[D0]) (R0 (t:=true) (by simp[D0,AE]) (λ_=> ?_) (by simp));refine Mv (λ_=>⟨.i64,q,l.length,by simp,by omega,by simp,by omega,by simp[AE,hc,hl]⟩) (lX (r:= .bool b) (λ_=>⟨g,caps,by simp,?_,by simp⟩) ?_)
  ·have:=hf l[q] b hb;rw[hc]at this;simpa[AE,hc,<-hl]using this
  ·cases b with
   |true=>exact R0 (t:=true) (by simp) (λ_=>VN (by simp[Hc rfl])) (by simp)
   |false=>refine R0 (t:=false) (by simp) (by simp) λ_=>Mv (by simp[D0]) (mG ?_);have:=hW AE (FW rfl);simpa[D0,D1 (n:=(q:Int)+1) (by omega) (by omega)]using this
 ·have HX:q=l.length:=by omega
  subst HX;have hr:r= -1:=by simpa[Kd]using hJ.symm
  refine Mv (by simp[D0]) (R0 (t:=false) (by simp[D0]) (by simp) λ_=>oC ?_);exact VN (by simp[hr])
def Wb(f:Nat):Tr:=
 .call [] (.inl f) (.cons (.var 0) (.cons (.var 1) .nil))<|
 .bu [] (.dfd (.bin .geq (.var 2) (.int .i64 (0))))<|
 .ret (.bin .geq (.var 2) (.int .i64 (0)))
theorem o9{α:Type}{l:List α}{p:α->Option Bool}{f:Nat}{x y:AV}{r:Bool}(h:Lc l p=some r)(hf:∀i,OU l p=some i->CI Try.prog CH f [x,y] (.int .i64 i)):Den (Wb f) (.bool r) [x,y]:=by obtain⟨i,hi,h⟩:=MW h;unfold Den Wb;refine oB (λ_=>by simpa using hf i hi) (Mv (by simp[D0]) (VN ?_));simp only[Aa]at h;simp[D0,<-h]
end Go.Proofs.Yteeafhlnofapaaa
end
noncomputable section
namespace Go.Proofs.Yteeafhlnofapaaa
open Go.ChangeShapes Go.WideShapes Go.ChangeAt Go.RowKit
theorem nF{P:Program}{w:World}:CV P w [] [] [] [] [] [] [] []:= .nil
theorem lG{P:Program}{w:World}{t:TypeId}{ts:List TypeId}{v:Value}{vs:List Value}{x:AV}{xs:List AV}{f rf:List Nat}(h:Rd w [v] [x] f)(k:CV P w ts [] [] vs xs rf [] []):CV P w (t::ts) [] [] (v::vs) (x::xs) (f++rf) [] []:=
 CV.cons (h:=[]) (hs:=[]) (ms:=[]) (lo:=[]) ⟨h,rfl⟩ k
theorem mC{P:Program}{sg:Br}{f:Nat}{fn:Func}{t:TypeId}{xs:List AV}(h:CI P sg f xs (.bool true))(hf:f<1000000){s:FT}(hs:sg f=some s)(Dr:s.ft=[])(IL:∀m∈s.bg,m= .ro)(Ej:FM P t s.res=false)(Gq:P.funcs[f]?=some fn)(hr:fn.resultTypes.toList=[t])
  {w:World} {vs:List Value} {rf:List Nat} (ha:CV P w fn.params.toList [] [] vs xs rf [] []) (DP:IV.n<=w.heap.size/\IV.K w):
  Calls P f vs.toArray w λe w'=>e= .returned (.bool true)/\Below w.heap.size w w':=by
 unfold CI at h;rw[if_pos hf]at h;obtain⟨s',AY,fn',Hh,_,_,_,_,_,hc⟩:=h;rw[hs]at AY;obtain rfl:=Option.some.inj AY;rw[Gq]at Hh;obtain rfl:=Option.some.inj Hh;refine(hc w vs rf [] [] (by rw[Dr,AG];exact ha.fm _ _ IL) (by simp) (by simp) (by simp) ⟨DP.1,DP.2,by simp⟩).mono λe w' ⟨v,he,hp⟩=> ?_;obtain⟨⟨R,bs,f1,o1,f2,o2,hR,AK,_⟩,hm⟩:=hp;have bG:R= .bool true:=by
  cases bs with
  |nil=>exact hR.symm
  |cons=>cases hR
 subst bG;rw[hr]at AK;have h2:EN P w' t s.res v (.bool true) f1 o1:=AK;unfold EN at h2;rw[Ej]at h2;obtain⟨h3,_⟩:=h2;have:v= .bool true:=by cases h3;rfl
 subst this;exact⟨he,hm.below⟩
section
variable {P:Program} {t:TypeId} {Q:List AV->Prop} {H:Type} {enc:TypeId × Value->H} {w:World} {spare:Nat->Bool} {held:Bool} {v:Value} {d:DataW H} {p:List MemPlace} {r:Reach} {base:Nat}
theorem pN(hO:FR P t Q)(hc:v.cells= #[v])(h:DataW.Trod enc P w 0 spare held t v d p):∃x f,Rd w [v] [x] f/\Q [x]:=by
 obtain⟨n,h⟩:=h;rw[hc]at h;obtain⟨_,_,xs,f,hr,hq⟩:=hO.2 _ _ _ _ _ _ _ _ h;have hl:=hr.len
 match xs,hl with
 | [x],_=>exact⟨x,f,hr,hq⟩
theorem jN{e:TypeId}(hO:FR P t Q)(ht:P.underlying t=some (.slice e))(hv:Value.okWide P w r base t v)(h:DataW.Trod enc P w 0 spare held t v d p):∃x f,Rd w [v] [x] f/\Q [x]:=by obtain⟨a,l,c,rfl⟩:=okWide_slice ht hv;exact pN hO rfl h
end
theorem pY{a b:Bool}(ha:a=true)(hb:b=true):(a&&b)=true:=by rw[ha,hb];rfl
def M6(n:Int):Prop:=0<=n/\n<=255
def T8{α:Type}(ok:α->Prop)(l:List α):Prop:=l.length<=9223372036854775807/\ ∀x∈l,ok x
theorem qX{n:Int}(h:Eg .u8 n):M6 n:=by unfold Eg at h;simp only[IntKind.wrap,IntKind.bits,IntKind.signed]at h;unfold M6;simp at h;omega
section
variable {P:Program} {t e:TypeId} {α:Type} {ok:α->Prop} {av:α->AV}
theorem rM(ht:P.underlying t=some (.int .u8))(hc:P.cellsOf t=1):FR P t λxs=> ∃n,M6 n/\xs=[PY n]:=
 (pA ht hc).mono λ_ ⟨n,h,e⟩=>⟨n,qX h,e⟩
theorem Y3:∀{ys:List AV},(∀y∈ys,HU false (λxs=> ∃c,ok c/\xs=[av c]) y)-> ∃l:List α,(∀c∈l,ok c)/\ys=l.map av
 | [],_=>⟨[],by simp,rfl⟩
 |y::ys,h=>by obtain⟨l,hl,rfl⟩:=Y3 λz hz=>h z (List.mem_cons_of_mem _ hz);have h0:=h y (List.mem_cons_self ..);simp only[HU,B1,if_false]at h0;obtain⟨_,c,hk,hc⟩:=h0;exact⟨c::l,by simpa using⟨hk,hl⟩,by simp at hc;simp[hc]⟩
theorem rI(ht:P.underlying t=some (.slice e))(hc:P.cellsOf t=1)(Jq:P.cellsOf e=1)(he:FR P e λxs=> ∃c,ok c/\xs=[av c]):FR P t λxs=> ∃l:List α,T8 ok l/\xs=[.sl (l.map av)]:=
 (jO false ht hc he (.inr Jq)).mono λ_ ⟨ys,hl,hy,e⟩=>by obtain⟨l,hk,rfl⟩:=Y3 hy;exact⟨l,⟨by simpa using hl,hk⟩,e⟩
end
end Go.Proofs.Yteeafhlnofapaaa
end
noncomputable section
namespace Go.Proofs.Yteeafhlnofapaaa
open Go.RowKit
set_option maxRecDepth 100000
structure Am where
 ab:Int
 ah:Int
 ae:AL
 aw:AL
 aq:Bool
@[simp] def H6(x:Am):AV:= .agg [.int .i64 x.ab, .int .i64 x.ah, .str x.ae, .str x.aw, .bool x.aq]
structure Bx where
 bf:List Int
 db:Int
 bp:Int
@[simp] def o0(x:Bx):AV:= .agg [.sl (x.bf.map PY), .int .i64 x.db, .int .u64 x.bp]
structure DA where
 ae:AL
 aw:AL
 aq:Bool
@[simp] def ZA(x:DA):AV:= .agg [.str x.ae, .str x.aw, .bool x.aq]
structure Cd where
 ab:Int
 aw:AL
 aq:Bool
@[simp] def aI(x:Cd):AV:= .agg [.int .i64 x.ab, .str x.aw, .bool x.aq]
structure Ah where
 ae:AL
 ak:List Cd
@[simp] def Z6(x:Ah):AV:= .agg [.str x.ae, .sl (x.ak.map aI)]
structure Sj where
 iq:Int
 ab:Int
 kd:Int
 ju:List (AL)
 im:List DA
@[simp] def Z9(x:Sj):AV:= .agg [.int .i64 x.iq, .int .i64 x.ab, .int .i64 x.kd, .sl (x.ju.map rH), .sl (x.im.map ZA)]
structure Ws where
 iq:Int
 ku:Bool
 ab:Int
@[simp] def Z7(x:Ws):AV:= .agg [.int .i64 x.iq, .bool x.ku, .int .i64 x.ab]
structure MG where
 jo:Int
 bq:List Ah
 km:List Sj
 kf:List Ws
@[simp] def oU(x:MG):AV:= .agg [.int .i64 x.jo, .sl (x.bq.map Z6), .sl (x.km.map Z9), .sl (x.kf.map Z7)]
structure CM where
 ay:Int
 cx:Int
 ax:List Am
@[simp] def pX(x:CM):AV:= .agg [.int .i64 x.ay, .int .i64 x.cx, .sl (x.ax.map H6)]
end Go.Proofs.Yteeafhlnofapaaa
end
noncomputable section
namespace Go.Proofs.Yteeafhlnofapaaa
open Go.ChangeShapes Go.WideShapes Go.ChangeAt Go.RowKit
set_option maxRecDepth 100000
theorem eD:FR Try.prog 5 λxs=> ∃n,M6 n/\xs=[PY n]:=rM Try.underlying5 (by kernel_rfl)
theorem eC:FR Try.prog 22 λxs=> ∃l:List Int,T8 M6 l/\xs=[.sl (l.map PY)]:=rI Try.underlying22 (by kernel_rfl) (by kernel_rfl) eD
end Go.Proofs.Yteeafhlnofapaaa
end
noncomputable section
namespace Go.Proofs.Yteeafhlnofapaaa
open Go.RowKit
set_option maxRecDepth 100000
section
variable {Rt:Nat->List AV->AV->Prop} {R:AV->Prop} {L:LK} {js:List JK} {ρ:List AV}
end
abbrev aU:Nat->List AV->AV->Prop:=CI Try.prog CH
@[reducible] def M3:Nat->Type
 |0=>Am
 |1=>Bx
 |2=>DA
 |3=>Cd
 |4=>Ah
 |5=>Sj
 |6=>Ws
 |7=>MG
 |8=>CM
 |_+9=>Unit
@[reducible] def Sl:Nat->List Ty
 |0=> [.i .i64, .i .i64, .s, .s, .b]
 |1=> [.l (.i .u8), .i .i64, .i .u64]
 |2=> [.s, .s, .b]
 |3=> [.i .i64, .s, .b]
 |4=> [.s, .l (.st 3)]
 |5=> [.i .i64, .i .i64, .i .i64, .l .s, .l (.st 2)]
 |6=> [.i .i64, .b, .i .i64]
 |7=> [.i .i64, .l (.st 4), .l (.st 5), .l (.st 6)]
 |8=> [.i .i64, .i .i64, .l (.st 0)]
 |_+9=> []
def Ua:∀n,M3 n->AV
 |0,x=>H6 x
 |1,x=>o0 x
 |2,x=>ZA x
 |3,x=>aI x
 |4,x=>Z6 x
 |5,x=>Z9 x
 |6,x=>Z7 x
 |7,x=>oU x
 |8,x=>pX x
 |_+9,_=> .agg []
def WA:∀n,M3 n->HL M3 (Sl n)
 |0,x=>(x.ab,x.ah,x.ae,x.aw,x.aq,())
 |1,x=>(x.bf,x.db,x.bp,())
 |2,x=>(x.ae,x.aw,x.aq,())
 |3,x=>(x.ab,x.aw,x.aq,())
 |4,x=>(x.ae,x.ak,())
 |5,x=>(x.iq,x.ab,x.kd,x.ju,x.im,())
 |6,x=>(x.iq,x.ku,x.ab,())
 |7,x=>(x.jo,x.bq,x.km,x.kf,())
 |8,x=>(x.ay,x.cx,x.ax,())
 |_+9,_=>()
def Xk:∀n,HL M3 (Sl n)->M3 n
 |0,x=>⟨x.1,x.2.1,x.2.2.1,x.2.2.2.1,x.2.2.2.2.1⟩
 |1,x=>⟨x.1,x.2.1,x.2.2.1⟩
 |2,x=>⟨x.1,x.2.1,x.2.2.1⟩
 |3,x=>⟨x.1,x.2.1,x.2.2.1⟩
 |4,x=>⟨x.1,x.2.1⟩
 |5,x=>⟨x.1,x.2.1,x.2.2.1,x.2.2.2.1,x.2.2.2.2.1⟩
 |6,x=>⟨x.1,x.2.1,x.2.2.1⟩
 |7,x=>⟨x.1,x.2.1,x.2.2.1,x.2.2.2.1⟩
 |8,x=>⟨x.1,x.2.1,x.2.2.1⟩
 |_+9,_=>()
theorem qL:∀n x,Ua n x= .agg (Gj Ua (Sl n) (WA n x))
 |0,_=>rfl
 |1,_=>rfl
 |2,_=>rfl
 |3,_=>rfl
 |4,_=>rfl
 |5,_=>rfl
 |6,_=>rfl
 |7,_=>rfl
 |8,_=>rfl
 |_+9,_=>rfl
theorem pC:∀n h,WA n (Xk n h)=h
 |0,_=>rfl
 |1,_=>rfl
 |2,_=>rfl
 |3,_=>rfl
 |4,_=>rfl
 |5,_=>rfl
 |6,_=>rfl
 |7,_=>rfl
 |8,_=>rfl
 |_+9,_=>rfl
@[reducible] def Dj:GN:=⟨aU,M3,Ua,Sl,WA,Xk,qL,pC⟩
abbrev FS:=FN Dj
def Ub(tb:List FS)(hs:List JM)(o:Option Tr)(ps:List PT)(r:RT)(xs:HP Dj.car ps)(hp:GM Dj ps xs):Option (Gk Dj.car r):=match o with
 |some t=>B7 tb 100000 (LY r) t hs (Qx ps xs hp) [] []
 |none=>none
theorem pR{f:Nat}{ps:List PT}{r:RT}{φ:HP Dj.car ps->Option (Gk Dj.car r)}(tb:List FS)(hs:List JM)(h:∀xs hp,Ub tb hs (PZ Try.prog CH f) ps r xs hp=φ xs)(hk:∀xs y,Sp Try.prog CH f (EU Dj ps xs) (Fg Dj r y)=true)(xs:HP Dj.car ps)(y:Gk Dj.car r)(hp:GM Dj ps xs)(e:φ xs=some y):Dj.Rt f (EU Dj ps xs) (Fg Dj r y):=by
 rw[<-h xs hp]at e;unfold Ub at e;split at e
 ·rename_i t ht;refine V6 ht (hk xs y) ?_;unfold Den;rw[<-ZE ps xs hp];exact DX tb 100000 (fa:=[]) (λ_ h=>nomatch h) (λ_ h=>nomatch h) (λv hv=>VX r hv) .nil e
 ·cases e
def A6(f:Nat)(ps:List PT)(r:RT)(φ:HP Dj.car ps->Option (Gk Dj.car r))(tb:List FS)(hs:List JM)(h:∀xs hp,Ub tb hs (PZ Try.prog CH f) ps r xs hp=φ xs:=by intro _ _;kernel_rfl)(hk:∀xs y,Sp Try.prog CH f (EU Dj ps xs) (Fg Dj r y)=true:=by intro _ _;kernel_rfl):FS:=
 ⟨f,ps,r,φ,λxs y hp e=>pR tb hs h hk xs y hp e,false,λh=>by cases h⟩
def T7(d:FS)(h:∀y,VZ d.f (Fg Dj d.r y)=true):FS:=
 ⟨d.f,d.ps,d.r,d.φ,d.ok,true,λ_ xs y hx e=>lV (d.ok xs y hx e) (h y)⟩
def Om(f:Nat)(ps:List PT)(r:RT)(φ:HP Dj.car ps->Option (Gk Dj.car r))(ok:∀xs y,GM Dj ps xs->φ xs=some y->Dj.Rt f (EU Dj ps xs) (Fg Dj r y)):FS:=⟨f,ps,r,φ,ok,false,λh=>by cases h⟩
end Go.Proofs.Yteeafhlnofapaaa
end
noncomputable section
namespace Go.Proofs.Yteeafhlnofapaaa
open Go.RowKit
theorem CV.rd{P:Program}{w:World}{ts:List TypeId}{ms:List PM}{lo:List Bool}{vs:List Value}{xs:List AV}{rf lf hs:List Nat}(h:CV P w ts ms lo vs xs rf lf hs):lo=[]->(∀m∈ms,m= .ro)->Rd w vs xs rf/\hs=[]:=by
 induction h with
 |nil=>intro _ _;exact⟨.nil,rfl⟩
 |lent h1 _ _ _ _=>intro BH;subst BH;cases h1
 | @cons t ts ms lo v vs x xs f h rf lf hs AS _ ih=>
  intro BH DL;subst BH;obtain⟨h1,rfl⟩:=ih rfl λm hm=>DL m (List.mem_of_mem_tail hm);have IL:ms.headD .ro= .ro:=by
   cases ms with
   |nil=>rfl
   |cons m ms=>exact DL m (by simp)
  rw[IL]at AS;obtain⟨h2,h3⟩:Rd w [v] [x] f/\h=[]:=AS;subst h3;exact⟨by simpa using h2.app h1,rfl⟩
 |free h1 _ ih=>intro BH DL;subst BH;obtain⟨h2,rfl⟩:=ih rfl λm hm=>DL m (List.mem_of_mem_tail hm);exact⟨by simpa using h1.app h2,rfl⟩
theorem C5.iu{P:Program}{w:World}:∀{ts:List TypeId} {ms:List PM} {vs:List Value},vs.length=ts.length->(∀m∈ms,m= .ro)->C5 P w ts ms vs [] [] []
 | [],_,vs,_,_=> .nil
 |t::ts,ms,[],h,_=>by simp at h
 |t::ts,ms,v::vs,h,DL=>by
  refine .ro ?_ (C5.iu (by simpa using h) λm hm=>DL m (List.mem_of_mem_tail hm));cases ms with
  |nil=>rfl
  |cons m ms=>exact DL m (by simp)
def Wv(P:Program)(sg:Br)(f np:Nat)(r:AV):Bool:=
 match P.funcs[f]?,sg f with
 |some fn,some s=>fn.body.isSome&& !(fn.name== "runtime.NumGoroutine")&&J1 P fn s r&&s.bg.all (λm=>match m with| .ro=>true|_=>false)&&fn.params.size==np&&fn.nfree==0&&(s.ft.isEmpty&&s.lo.isEmpty)&&(match fn.resultTypes.toList with| [t]=> !FM P t s.res|_=>false)
 |_,_=>false
theorem nE{f:Nat}{xs:List AV}{r:AV}(hk:Wv Try.prog CH f xs.length r=true)(hc:∀(w:World) (vs:List Value) (rf:List Nat),IV.K w->Rd w vs xs rf->Calls Try.prog f vs.toArray w λe w'=>Mod [] w w'/\ ∃v f1,e= .returned v/\Rd w' [v] [r] f1/\ ∀b∈f1,b∈rf\/w.heap.size<=b):CI Try.prog CH f xs r:=by
 unfold Wv at hk;split at hk
 ·rename_i fn s hf hs;simp only[Ad,Bn,AA,Bz]at hk;obtain⟨⟨⟨⟨⟨⟨⟨h1,h2⟩,h3⟩,h4⟩,h5⟩,h6⟩,Dr⟩,h7⟩:=hk;obtain⟨Dr,BH⟩:s.ft=[]/\s.lo=[]:=by simpa using Dr
  have IL:∀m∈s.bg,m= .ro:=λm hm=>by
   have:=h4 m hm;split at this
   ·rfl
   ·cases this
  unfold CI;rw[if_pos (MN f s hs)];refine⟨s,hs,fn,hf,h1,h2,h3,by omega,by simp[Dr],λw vs rf lf AY Ai hd _ BP DP=> ?_⟩;obtain⟨hr,rfl⟩:=Ai.rd BH IL;refine(hc w vs rf DP.2.1 hr).mono ?_;rintro e w' ⟨hm,v,f1,rfl,hv,hb⟩;refine⟨v,rfl,⟨⟨r,[],f1,[],[],[],rfl,?_,C5.iu ?_ IL,by simp,by simp,λb Bt=>⟨by simp,?_⟩⟩,hm⟩⟩
  ·unfold Io;split at h7
   ·rename_i t ht;rw[ht];show EN Try.prog w' t s.res v r f1 [];unfold EN;rw[if_neg (by rw[Bool.not_eq_true];simpa using h7)];exact⟨hv,rfl⟩
   ·cases h7
  ·rw[hr.len];simp[Dr];omega
  ·rcases hb b (by simpa using Bt)with h|h
   ·exact .inl h
   ·exact .inr (.inr h)
 ·cases hk
theorem nS{f:Nat}{xs:List AV}{r:AV}(hk:Wv Try.prog CH f xs.length r=true)(hc:∀(w:World) (vs:List Value) (rf:List Nat),Rd w vs xs rf->Calls Try.prog f vs.toArray w λe w'=>Mod [] w w'/\ ∃v f1,e= .returned v/\Rd w' [v] [r] f1/\ ∀b∈f1,b∈rf\/w.heap.size<=b):CI Try.prog CH f xs r:=
 nE hk λw vs rf _ hr=>hc w vs rf hr
theorem qC{w:World}{s:AL}{vs:List Value}{xs:List AV}{f:List Nat}(h:Rd w vs (.str s::xs) f):∃(b:ByteArray) (us:List Value),vs= .string b::us/\b.data.toList=s/\b.size<=9223372036854775807/\Rd w us xs f:=by
 cases h with
 |str a h=>exact⟨_,_,rfl,rfl,a,h⟩
theorem ZY{w:World}{k:IntKind}{n:Int}{vs:List Value}{xs:List AV}{f:List Nat}(h:Rd w vs (.int k n::xs) f):∃us:List Value,vs= .int k n::us/\Eg k n/\Rd w us xs f:=by
 cases h with
 |int a h=>exact⟨_,rfl,a,h⟩
theorem Zy{w:World}{vs:List Value}{f:List Nat}(h:Rd w vs [] f):vs=[]/\f=[]:=by cases h;exact⟨rfl,rfl⟩
end Go.Proofs.Yteeafhlnofapaaa
end
noncomputable section
namespace Go.Proofs
open Go.Shelf
def Try.iy:Go.Shelf.Ren:=⟨λ|137=>84|217=>90|266=>92|n=>n,λ|9=>9|5=>5|3=>3|n=>n,λ|n=>n⟩
def Try.jb:Go.Shelf.Ren:=⟨λ|215=>76|n=>n,λ|3=>3|4=>4|n=>n,λ|n=>n⟩
def Try.ek:Go.Shelf.Ren:=⟨λ|122=>50|215=>76|n=>n,λ|3=>3|4=>4|n=>n,λ|n=>n⟩
theorem Try.ib:Go.Proofs.Lays.n122 Try.prog Try.ek:={
 mixed:=by kernel_rfl
 f122:=Try.func50.trans (congrArg some (by kernel_rfl))
 f215:=Try.func76.trans (congrArg some (by kernel_rfl))
 t3:=Try.underlying3
 a3:=Try.isAgg3
 z3:=Try.sizeOf3
 v3:=Try.zeroValue3
 t4:=Try.underlying4
 a4:=Try.isAgg4
 z4:=Try.sizeOf4
 v4:=Try.zeroValue4}
open Go.RowKit in
theorem Try.cmp_Compare_int(x y:Int)(w:World):
  Calls Try.prog 50 #[.int .i64 x, .int .i64 y] w λe w'=>e= .returned (.int .i64 (Lib.compareInt x y))/\w'=w:=Any.cmp_Compare_int Try.ib x y w
def Try.ei:Go.Shelf.Ren:=⟨λ|217=>90|266=>92|n=>n,λ|9=>9|5=>5|3=>3|n=>n,λ|n=>n⟩
theorem Try.ie:Go.Proofs.Lays.n217 Try.prog Try.ei:={
 mixed:=by kernel_rfl
 f217:=Try.func90.trans (congrArg some (by kernel_rfl))
 f266:=Try.func92.trans (congrArg some (by kernel_rfl))
 t3:=Try.underlying3
 a3:=Try.isAgg3
 z3:=Try.sizeOf3
 v3:=Try.zeroValue3
 t5:=Try.underlying5
 a5:=Try.isAgg5
 z5:=Try.sizeOf5
 v5:=Try.zeroValue5
 t9:=Try.underlying9
 a9:=Try.isAgg9
 z9:=Try.sizeOf9
 v9:=Try.zeroValue9}
open Go.RowKit Go.Lib in
theorem Try.stringslite_IndexByte(s:ByteArray)(c:Int)(w:World):
  Calls Try.prog 90 #[.string s, .int .u8 c] w λe w'=>e= .returned (.int .i64 (Lib.indexByte s.data.toList c.toNat.toUInt8))/\w'=w:=Any.stringslite_IndexByte Try.ie s c w
end Go.Proofs
end
noncomputable section
namespace Go.Proofs.Yteeafhlnofapaaa
open Go.RowKit
set_option maxRecDepth 100000
theorem XP:∀(l:AL) (c:UInt8), -1<=Lib.indexByte l c/\Lib.indexByte l c<l.length\/Lib.indexByte l c= -1
 | [],_=> .inr rfl
 |b::l,c=>by
  unfold Lib.indexByte;rcases XP l c with h|h
  ·split
   ·left;simp
   ·split
    ·exact .inr rfl
    ·left;rw[AQ];omega
  ·rw[h];split
   ·left;simp
   ·right;rfl
theorem mH{n:Int}(h1: -9223372036854775808<=n)(h2:n<=9223372036854775807):Eg .i64 n:=D1 h1 h2
def Qz(s:AL)(c:Int):Option Int:=some (Lib.indexByte s c.toNat.toUInt8)
theorem eJ(a0:AL)(a1 r:Int)(h:Qz a0 a1=some r):CI Try.prog CH 90 [.str a0, .int .u8 a1] (.int .i64 r):=nS (by kernel_rfl) λw vs rf hr=>by
 obtain⟨b,us,rfl,rfl,hb,hr⟩:=qC hr;obtain⟨us1,rfl,_,hr⟩:=ZY hr;obtain⟨rfl,rfl⟩:=Zy hr;refine(Try.stringslite_IndexByte b a1 w).mono ?_;rintro e w' ⟨rfl,rfl⟩;cases h;have hl:b.data.toList.length<=9223372036854775807:=by rw[BF];exact hb
 exact⟨Mod.refl [] _,_,[],rfl, .int (by rcases XP b.data.toList a1.toNat.toUInt8 with h|h<;>exact mH (by omega) (by omega)) .nil,by simp⟩
def Jm(w:World)(el:TypeId)(k:Nat)(g cap:Nat)(C:Array Value)(n:Nat)(cs:List Value):Prop:=
 n<=cap/\cap<=maxLen/\w.heap[g]?=some (.cells C el (0,0))/\C.size=cap*k/\cs=C.toList.take (n*k)
theorem Jm.cell{w:World}{el:TypeId}{k g cap:Nat}{C:Array Value}{n:Nat}{cs:List Value}(h:Jm w el k g cap C n cs)(off j:Nat)(v:Value)(hj:(cs.drop off)[j]?=some v):w.cell? ((⟨g,off,none⟩:Addr).add j)=some v:=by
 obtain⟨_,_,h3,_,h5⟩:=h;rw[Addr.add_lit,DZ h3];rw[List.getElem?_drop,h5,List.getElem?_take]at hj;split at hj
 ·simpa using hj
 ·cases hj
theorem Jm.len{w:World}{el:TypeId}{k g cap:Nat}{C:Array Value}{n:Nat}{cs:List Value}(h:Jm w el k g cap C n cs):cs.length=n*k:=by obtain⟨h1,_,_,h4,h5⟩:=h;have:=Bo k h1;rw[h5,AU,BF];omega
theorem two{α:Type}(zs cs vs:List α)(i m n:Nat)(cur:List α)(SZ:cur=cs.take i++zs)(As:cs.length=n)(hi:i<=n)(hv:vs.length=m)(hz:n+m-i<=zs.length):
  let c1:=cur.take i++vs++cur.drop (i+vs.length)
  (c1.take (i+m)++cs.drop i++c1.drop (i+m+(cs.drop i).length)).take (n+m)=cs.take i++vs++cs.drop i:=by
 have ht:(cs.take i).length=i:=by rw[AU];omega
 intro c1;have e1:c1=cs.take i++vs++cur.drop (i+vs.length):=by show cur.take i++vs++cur.drop (i+vs.length)=_;rw[SZ];congr 2;rw[List.take_append_of_le_length (by omega),List.take_take,Nat.min_self]
 have e2:c1.take (i+m)=cs.take i++vs:=by
  have l2:(cs.take i++vs).length=i+m:=by rw[AZ,ht,hv]
  rw[e1,<-l2,List.take_left]
 rw[e2];have l1:(cs.take i++vs++cs.drop i).length=n+m:=by simp only[AZ,ht,hv,Dv,As];omega
 rw[<-l1,List.take_left]
theorem Cp.jz{w:World}{el K:Nat}{v:Value}{x:AV}{top:List Nat}(h:Cp w el K v x top []):∃xs cs,x= .sl xs/\0<K/\(∀y∈xs,y.cells.length=K)/\cs.length=xs.length*K/\Rd w cs (Ar xs) []/\(∀u∈cs,u.oneCell'=true)/\
  ((xs=[]/\top=[]/\ ∃q,v= .slice q 0 0)\/ ∃g cap C,v= .slice (some ⟨g,0,none⟩) xs.length cap/\Jm w el K g cap C xs.length cs/\top=[g]):=by
 obtain⟨xs,rfl,h2,h3,⟨rfl,⟨a,hv⟩,rfl,_⟩|⟨g,cap,C,rfl,h6,h7,h8,h9,rfl,D8,DF⟩⟩:=h
 ·exact⟨[],[],rfl,h3,h2,by simp,by simpa[Ar]using Rd.nil,by simp, .inl ⟨rfl,rfl,a,hv⟩⟩
 ·exact⟨xs,_,rfl,h3,h2,(Jm.len ⟨h6,h7,h8,h9,rfl⟩),DF,D8, .inr ⟨g,cap,C,rfl,⟨h6,h7,h8,h9,rfl⟩,rfl⟩⟩
theorem YC{P:Program}{w:World}{t el:TypeId}{v:Value}{x:AV}{rf hs:List Nat}(ha:Ag P t=false)(hl:AR P t=[t])(he:Cb P t=some el)(hf:BI P el=true)(h:Lz P w t [true] v x rf hs):rf=[]/\Cp w el (P.cellsOf el) v x hs []:=by
 obtain⟨us,ys,h1,h2⟩:=h;rw[ha]at h1;simp only[B1,if_false]at h1;obtain⟨rfl,rfl⟩:=h1;rw[hl]at h2;cases h2 with
 |own q1 q2 q3 q4 q5=>
  cases q5;rw[he]at q2;cases q2;rcases q3 with⟨_,rfl⟩|⟨h,_⟩
  ·exact⟨rfl,by simpa using q4⟩
  ·rw[hf]at h;cases h
 |deep q1 q2 q3=>rw[he]at q2;cases q2;rw[hf]at q3;cases q3
 |rd q1=>have:=q1 rfl;rw[he]at this;cases this
def sL(P:Program)(sg:Br)(f:Nat)(t it el K:Nat):Bool:=
 match P.funcs[f]?,sg f with
 |some fn,some s=>(match s.bg,s.res,s.ft,s.lo with
  | [.va [true], .ro, .va [true]],[true],[],[]=>true
  |_,_,_,_=>false)&&fn.body.isSome&& !(fn.name== "runtime.NumGoroutine")&&fn.params.toList==[t,it,t]&&fn.resultTypes.toList==[t]&&fn.nfree==0&& !Ag P t&&AR P t==[t]&&Cb P t==some el&&BI P el&&P.cellsOf el==K&&FM P t [true]&&fn.params.size==3
 |_,_=>false
def Wi(P:Program)(sg:Br)(f:Nat)(r:List AV):Bool:=match P.funcs[f]?,sg f with
 |some fn,some s=>J1 P fn s (.sl r)
 |_,_=>false
class aS(P:Program)(el K:Nat)(st it ov:outParam Nat):Prop where
 u:P.underlying st=some (.slice el)
 v:P.underlying it=some (.int .i64)
 i:∃i z,P.info? el=some i/\i.size=K/\i.zero=some z/\z.cells.size=K/\i.bytes<=1000/\0<K
 o:∃fn bt,P.funcs[ov]?=some fn/\(fn.name== "runtime.NumGoroutine")=false/\fn.body.isNone=true/\Extern.findNext fn=none/\Extern.find fn=some (Extern.SlicesOverlaps.overlaps #[st,st] #[bt])
def Z3(P:Program)(el K:Nat):Bool:=match P.info? el with
 |some i=>(match i.zero with|some z=>i.size==K&&z.cells.size==K&&decide (i.bytes<=1000)&&decide (0<K)|none=>false)
 |none=>false
theorem oT{P:Program}{el K:Nat}(h:Z3 P el K=true):∃i z,P.info? el=some i/\i.size=K/\i.zero=some z/\z.cells.size=K/\i.bytes<=1000/\0<K:=by
 unfold Z3 at h;split at h
 ·rename_i i hi;split at h
  ·rename_i z hz;simp only[Ad,AA,Au]at h;exact⟨i,z,hi,h.1.1.1,hz,h.1.1.2,h.1.2,h.2⟩
  ·cases h
 ·cases h
end Go.Proofs.Yteeafhlnofapaaa
end
noncomputable section
namespace Go.Proofs.Yteeafhlnofapaaa
open Go.RowKit Go.Sort
def Dm{α:Type}(av:α->AV)(x:α):List Value:=(av x).cells.map AV.val
theorem qU{w:World}:∀{cs:List Value} {ys:List AV} {f:List Nat},Rd w cs ys f->(∀y∈ys,y.scalar=true)->cs=ys.map AV.val:=by
 intro cs ys f h
 induction h with
 |nil=>intro _;rfl
 |int _ _ ih=>intro hy;rw[ih λy m=>hy y (by simp[m])];rfl
 |bool _ ih=>intro hy;rw[ih λy m=>hy y (by simp[m])];rfl
 |str _ _ ih=>intro hy;rw[ih λy m=>hy y (by simp[m])];rfl
 |_=>intro hy;first|(have:=hy _ (List.mem_cons_self ..);simp[AV.scalar]at this)
section
variable {α:Type} {av:α->AV} {k:Nat}
theorem Ze(De:∀x,∀y∈(av x).cells,y.scalar=true){w:World}:∀{xs:List α} {cs:List Value},Rd w cs (Ar (xs.map av)) []->cs=xs.flatMap (Dm av)/\ ∀x∈xs,Rd w (Dm av x) (av x).cells []
 | [],cs,h=>by have:Ar (List.map av [])=[]:=rfl;rw[this]at h;cases h;exact⟨rfl,by simp⟩
 |x::xs,cs,h=>by
  have e:Ar ((x::xs).map av)=(av x).cells++Ar (xs.map av):=by simp[Ar]
  rw[e]at h;have hl:=h.len;have e2:cs=cs.take (av x).cells.length++cs.drop (av x).cells.length:=(BB _ _).symm;rw[e2]at h;obtain⟨f1,f2,hf,h1,h2⟩:=Rd.cy (by rw[AU,hl];simp) h;obtain⟨rfl,rfl⟩:f1=[]/\f2=[]:=by simpa using hf.symm
  obtain⟨g1,g2⟩:=Ze De h2;have g3:=qU h1 (De x);refine⟨by rw[e2,g3,g1];simp[Dm],λy hy=> ?_⟩;rcases Ac.1 hy with rfl|hy
  ·unfold Dm;rw[<-g3];exact h1
  ·exact g2 y hy
theorem ZI{w:World}:∀{xs:List α},(∀x∈xs,Rd w (Dm av x) (av x).cells [])->Rd w (xs.flatMap (Dm av)) (Ar (xs.map av)) []
 | [],_=>by simpa[Ar]using Rd.nil
 |x::xs,h=>by
  have e:Ar ((x::xs).map av)=(av x).cells++Ar (xs.map av):=by simp[Ar]
  rw[e,List.flatMap_cons];exact(h x (by simp)).app (ZI λy hy=>h y (by simp[hy]))
variable [Inhabited α]
omit [Inhabited α]in
theorem Ys{j n k:Nat}(h:j<n*k):0<k:=by
 cases k with
 |zero=>simp at h
 |succ k=>omega
omit [Inhabited α]in
theorem Y0{enc:α->List Value}(hk:∀x,(enc x).length=k):∀(l:List α),(l.flatMap enc).length=l.length*k
 | []=>by simp
 |x::l=>by simp only[List.flatMap_cons,AZ,hk,Y0 hk l,AQ,Nat.add_mul];omega
theorem Zg{enc:α->List Value}(hk:∀x,(enc x).length=k):∀(l:List α) (j:Nat),j<l.length*k->(l.flatMap enc)[j]?=(enc l[j/k]!)[j % k]?
 | [],j,h=>by simp at h
 |x::l,j,h=>by
  have k0:0<k:=Ys h;rw[List.flatMap_cons];by_cases hj:j<k
  ·rw[List.getElem?_append_left (by rw[hk];exact hj),Nat.div_eq_of_lt hj,Nat.mod_eq_of_lt hj];rfl
  ·rw[List.getElem?_append_right (by rw[hk];omega),hk,Zg hk l (j-k) (by simp only[AQ,Nat.add_mul]at h;omega)];obtain⟨i,rfl⟩:∃i,j=i+k:=⟨j-k,by omega⟩
   rw[Nat.add_sub_cancel,Nat.add_div_right _ k0,Nat.add_mod_right];rfl
theorem Yk{enc:α->List Value}(hk:∀x,(enc x).length=k)(d:Array α):(flatK enc k d).toList=d.toList.flatMap enc:=by
 apply List.ext_getElem?;intro j;by_cases hj:j<d.size*k
 ·have k0:0<k:=Ys hj;have hd:j/k<d.size:=Nat.div_lt_of_lt_mul (by rw[Nat.mul_comm];exact hj);have hm:j % k<k:=Nat.mod_lt _ k0;rw[Zg hk _ _ (by simpa using hj)];have h1:=get_flatK enc k d j hj;rw[Array.getElem?_toList,Array.getElem?_eq_getElem (by simpa using hj),<-getElem!_pos (flatK enc k d) j (by simpa using hj),h1];rw[show(d.toList[j/k]!)=(d[j/k]!) by simp[hd],CS (by rw[hk];exact hm),getElem!_pos _ _ (by rw[hk];exact hm)]
 ·rw[List.getElem?_eq_none (by simpa using hj),List.getElem?_eq_none (by rw[Y0 hk];simpa using hj)]
theorem gK(F C:Array Value)(h:F.size<=C.size):(Go.Sort.putCells id 0 F C).toList.take F.size=F.toList:=by
 apply List.ext_getElem?;intro j;by_cases hj:j<F.size
 ·have hc:j<C.size:=by omega
  simp[Go.Sort.putCells,List.getElem?_take,hj,hc]
 ·rw[List.getElem?_eq_none (by simp;omega),List.getElem?_eq_none (by simpa using hj)]
theorem jJ{enc:α->List Value}{w:World}{g m:Nat}{C:Array Value}{el:TypeId}{d:Array α}{os:Array Obj}(h:w.heap[g]?=some (.cells C el (0,0))):
  (sortWorldK enc k w g 0 m d os).heap[g]?=some (.cells (Go.Sort.putCells id 0 (flatK enc k d) C) el (0,0)):=by
 have hg:=EI h;show((w.heap.modify g (onCells (Go.Sort.putCells id 0 (flatK enc k d))))++os)[g]?=_;rw[Array.getElem?_append_left (by simpa using hg),Array.getElem?_modify,if_pos rfl,h];rfl
theorem jT{enc:α->List Value}{w:World}{g m:Nat}{d:Array α}{os:Array Obj}:Mod [g] w (sortWorldK enc k w g 0 m d os):=by
 refine⟨rfl,rfl,rfl,?_,λj hj hn=> ?_⟩
 ·show w.heap.size<=((w.heap.modify g (onCells (Go.Sort.putCells id 0 (flatK enc k d))))++os).size;simp
 ·show((w.heap.modify g (onCells (Go.Sort.putCells id 0 (flatK enc k d))))++os)[j]?=_;rw[Array.getElem?_append_left (by simpa using hj),Array.getElem?_modify,if_neg (by simpa[eq_comm]using hn)]
end
def aM(P:Program)(sg:Br)(f:Nat)(t ft el K:Nat):Bool:=
 match P.funcs[f]?,sg f with
 |some fn,some s=>(match s.bg,s.res,s.ft,s.lo with
  | [.mu [true], .ro],[],[],[]=>true
  |_,_,_,_=>false)&&fn.body.isSome&& !(fn.name== "runtime.NumGoroutine")&&fn.params.toList==[t,ft]&&fn.resultTypes.toList==[]&&fn.nfree==0&& !Ag P t&&AR P t==[t]&&Cb P t==some el&&BI P el&&P.cellsOf el==K&&fn.params.size==2
 |_,_=>false
theorem nB{f g t ft el k:Nat}{α:Type}[Inhabited α]{av:α->AV}(S:Array α->Array α)(hk:aM Try.prog CH f t ft el k=true)
  (De:∀x,∀y∈(av x).cells,y.scalar=true) (hlen:∀x,(av x).cells.length=k) (bI:∀d:Array α,(S d).toList.Perm d.toList)
  (hS:∀(blk cap:Nat) (d:Array α) (w:World),HoldsK (Dm av) k w blk 0 d->blk<w.heap.size->d.size<4611686018427387904->
   Calls Try.prog f #[.slice (some ⟨blk,0,none⟩) d.size cap, .func (.func g) #[] #[]] w λe w'=>e= .returned (.tuple #[])/\ ∃n os,w'=sortWorldK (Dm av) k w blk 0 n (S d) os)
  (h0:∀p cap fv w,Calls Try.prog f #[.slice p 0 cap,fv] w λe w'=>e= .returned (.tuple #[])/\w'=w)
  (xs:List α) (hb:xs.length<4611686018427387904):CI Try.prog CH f [.sl (xs.map av), .fn g []] (.tup [.tup [], .sl ((S xs.toArray).toList.map av)]):=by
 unfold aM at hk;split at hk
 ·rename_i fn s hf hs;simp only[Ad,Bn,AA]at hk;obtain⟨⟨⟨⟨⟨⟨⟨⟨⟨⟨⟨g1,g2⟩,g3⟩,g4⟩,g5⟩,g6⟩,g7⟩,g8⟩,g9⟩,g10⟩,g11⟩,g13⟩:=hk;obtain⟨hm,hr,Dr,BH⟩:s.bg=[.mu [true], .ro]/\s.res=[]/\s.ft=[]/\s.lo=[]:=by
   split at g1
   ·rename_i a b c d;exact⟨a,b,c,d⟩
   ·cases g1
  have BJ:∀x,(Dm av x).length=k:=λx=>by simp[Dm,hlen]
  have hp:=bI xs.toArray;have FE:(S xs.toArray).toList.length=xs.length:=by simpa using hp.length_eq
  unfold CI;rw[if_pos (MN f s hs)];refine⟨s,hs,fn,hf,g2,g3,?_,by simp[g6,g13],by simp[Dr],λw vs rf lf AY Ai hd _ BP DP=> ?_⟩
  ·unfold J1 PQ;rw[g4,g5,Dr,AG,hm];simp[Ba,Py,Gg]
  rw[g4,Dr,AG,hm,BH]at Ai;cases Ai with
  |lent h _ _ _=>cases h
  | @cons _ _ _ _ v1 vs1 _ _ f1 k1 rf1 lf1 Bj a1 Ai=>
   cases Ai with
   |lent h _ _ _=>cases h
   | @cons _ _ _ _ v2 vs2 _ _ f2 k2 rf2 lf2 AN a2 Ai=>
    cases Ai;obtain⟨rfl,r1⟩:=YC g7 g8 g9 g10 a1;obtain⟨a2,rfl⟩:Rd w [v2] [AV.fn g []] f2/\k2=[]:=a2;obtain⟨rfl,rfl⟩:v2= .func (.func g) #[] #[]/\f2=[]:=by
     cases a2 with
     |fn b1 b2=>cases b1;cases b2;exact⟨rfl,rfl⟩
    obtain⟨xs',cs,e1,p0,p1,p2,p3,p4,p5⟩:=r1.jz;cases e1;rw[g11]at p0 p1 p2 p5;have F3:(xs.map av).length=xs.length:=by simp
    rcases p5 with⟨Ds,rfl,q,rfl⟩|⟨b,cap,C,rfl,⟨z1,z2,z3,z4,z5⟩,rfl⟩
    ·have BS:xs=[]:=by simpa using Ds
     subst BS;have bH:(S #[]).toList=[]:=by simpa using FE
     refine(h0 q 0 _ w).mono ?_;rintro e w' ⟨rfl,rfl⟩;refine⟨_,rfl,⟨⟨.tup [],[.sl []],[],[],[],[],by simp[bH],?_,?_,by simp,by simp,by simp⟩,Mod.refl _ _⟩⟩
     ·rw[g5];exact⟨[],[],rfl,rfl, .nil⟩
     ·rw[g4,Dr,AG,hm];have E1:Eh Try.prog w' (AR Try.prog t) [true] [.slice q 0 0] [.sl []] [] []:=by
       rw[g8];have:=Eh.own (P:=Try.prog) (w:=w') (t:=t) (ts:=[]) (fl:=[true]) (us:=[]) (ys:=[]) rfl g9 (.inl ⟨g10,rfl⟩) (y:= .sl []) (u:= .slice q 0 0) (top:=[]) (by rw[g11];exact⟨[],rfl,by simp,p0, .inl ⟨rfl,⟨q,rfl⟩,rfl,rfl⟩⟩) .nil;simpa using this
      have:=C5.mu (P:=Try.prog) (w:=w') (t:=t) (ts:=[ft]) (ms:=[.mu [true], .ro]) (own:=[true]) (v:= .slice q 0 0) (vs:=[.func (.func g) #[] #[]]) (us:=[.slice q 0 0]) (ys:=[.sl []]) (y:= .sl []) (bs:=[]) (f:=[]) (o1:=[]) (o:=[]) rfl (by rw[g7];simp) E1 (.ro rfl .nil);simpa using this
    ·obtain⟨q1,q2⟩:=Ze De p3;have Kr:=EI z3;have BL:∀o,w.cell? ⟨b,o,none⟩=C[o]?:=Vo z3;have S9:(flatK (Dm av) k xs.toArray).toList=xs.flatMap (Dm av):=by rw[Yk BJ]
     have hmul:=Bo k z1;rw[F3]at z1 z5 hmul;have hH:HoldsK (Dm av) k w b 0 xs.toArray:=by
      intro j hj;rw[size_flatK]at hj;have Jy:j<xs.length*k:=by simpa using hj
      refine⟨?_,XG z3⟩;rw[BL,Nat.zero_add];have e1:C[j]?=cs[j]?:=by rw[z5,List.getElem?_take,if_pos Jy];simp
      rw[e1,q1,<-S9,Array.getElem?_toList,Array.getElem?_eq_getElem (by simpa using hj),<-getElem!_pos (flatK (Dm av) k xs.toArray) j (by simpa using hj)];rfl
     have hc:=hS b cap xs.toArray w hH Kr (by simpa using hb);rw[show xs.toArray.size=(xs.map av).length by simp]at hc;refine hc.mono ?_;rintro e w' ⟨rfl,n,os,rfl⟩;have BT:Mod [b] w (sortWorldK (Dm av) k w b 0 n (S xs.toArray) os):=jT;have Hj:=jJ (enc:=Dm av) (k:=k) (m:=n) (d:=S xs.toArray) (os:=os) z3;generalize sortWorldK (Dm av) k w b 0 n (S xs.toArray) os=w' at BT Hj;have BK:(S xs.toArray).size=xs.length:=by simpa using FE
     have WE:(flatK (Dm av) k (S xs.toArray)).size=xs.length*k:=by rw[size_flatK,BK]
     have BQ:(Go.Sort.putCells id 0 (flatK (Dm av) k (S xs.toArray)) C).toList.take (xs.length*k)=(S xs.toArray).toList.flatMap (Dm av):=by rw[<-WE,gK _ _ (by rw[WE,z4];exact hmul),Yk BJ]
     have CJ:∀x∈(S xs.toArray).toList,x∈xs:=λx hx=>by simpa using hp.mem_iff.1 hx
     have CR:Rd w' ((S xs.toArray).toList.flatMap (Dm av)) (Ar ((S xs.toArray).toList.map av)) []:=(ZI λx hx=>q2 x (CJ x hx)).frame (by simp);have A9:Cp w' el k (.slice (some ⟨b,0,none⟩) (xs.map av).length cap) (.sl ((S xs.toArray).toList.map av)) [b] []:=by
      refine⟨_,rfl,λy hy=> ?_,p0, .inr ⟨b,cap,_,by simp[FE],by simpa[FE]using z1,z2,Hj,by simp[Go.Sort.putCells,z4],rfl,?_,?_⟩⟩
      ·obtain⟨x,_,rfl⟩:=List.mem_map.1 hy;exact hlen x
      ·rw[List.length_map,FE,BQ];intro u hu;obtain⟨x,hx,hu⟩:=List.mem_flatMap.1 hu;exact p4 u (by rw[q1];exact List.mem_flatMap.2 ⟨x,CJ x hx,hu⟩)
      ·rw[List.length_map,FE,BQ];exact CR
     refine⟨_,rfl,⟨⟨.tup [],[.sl ((S xs.toArray).toList.map av)],[],[],[],[b],rfl,?_,?_,by simp,?_,by simp⟩,BT.weaken λj hj=> .inl (by simpa using hj)⟩⟩
     ·rw[g5];exact⟨[],[],rfl,rfl, .nil⟩
     ·rw[g4,Dr,AG,hm];have E1:Eh Try.prog w' (AR Try.prog t) [true] [.slice (some ⟨b,0,none⟩) (xs.map av).length cap] [.sl ((S xs.toArray).toList.map av)] [] [b]:=by
       rw[g8];have:=Eh.own (P:=Try.prog) (w:=w') (t:=t) (ts:=[]) (fl:=[true]) (us:=[]) (ys:=[]) rfl g9 (.inl ⟨g10,rfl⟩) (by rw[g11];exact A9) .nil;simpa using this
      have:=C5.mu (P:=Try.prog) (w:=w') (t:=t) (ts:=[ft]) (ms:=[.mu [true], .ro]) (own:=[true]) (v:= .slice (some ⟨b,0,none⟩) (xs.map av).length cap) (vs:=[.func (.func g) #[] #[]]) (us:=[.slice (some ⟨b,0,none⟩) (xs.map av).length cap]) (ys:=[.sl ((S xs.toArray).toList.map av)]) (y:= .sl ((S xs.toArray).toList.map av)) (bs:=[]) (f:=[]) (o:=[]) rfl (by rw[g7];simp) E1 (.ro rfl .nil);simpa using this
     ·intro j hj;simp only[List.nil_append,List.mem_singleton]at hj;subst hj;exact⟨.inl (by simp),EI Hj⟩
 ·cases hk
end Go.Proofs.Yteeafhlnofapaaa
end
noncomputable section
namespace Go.Proofs.Yteeafhlnofapaaa
open Go Go.Proofs Go.Shelf Go.Sort
set_option maxRecDepth 100000
set_option maxHeartbeats 1000000
theorem Wh(s:ByteArray)(W:World):Calls Try.prog 77 #[.string s] W λe w'=>e= .returned (.bool false)/\w'=W:=by
 go_enter Try.func77,Try.ntmps77
 go_wp2
 go_ret
 exact⟨rfl,rfl⟩
def LH(a b:ByteArray):Int:=if Op.bytesLess a.toList b.toList then-1 else if a.toList==b.toList then 0 else 1
theorem rJ(a b:ByteArray)(W:World):(binOp .gtr 9 (.string a) (.string b)).run Try.prog W= .ok (.bool (!(Op.bytesLess a.toList b.toList||a.toList==b.toList))) W:=by kernel_rfl
theorem oR(a b:ByteArray)(W:World):Calls Try.prog 51 #[.string a, .string b] W λe w'=>e= .returned (.int .i64 (LH a b))/\w'=W:=by
 have hg:=rJ a b;unfold LH;by_cases h1:Op.bytesLess a.toList b.toList=true
 ·rw[if_pos h1]
  go_enter Try.func51,Try.ntmps51
  go_wp2_with (go_at_call 77;refine(Wh _ _).mono ?_;rintro e w' ⟨rfl,rfl⟩)
  go_ret
  exact⟨rfl,rfl⟩
 ·have P1:Op.bytesLess a.toList b.toList=false:=by simpa using h1
  rw[if_neg h1];clear h1;by_cases h2:(a.toList==b.toList)=true
  ·rw[if_pos h2]
   go_enter Try.func51,Try.ntmps51
   go_wp2_with (go_at_call 77;refine(Wh _ _).mono ?_;rintro e w' ⟨rfl,rfl⟩)
   go_ret
   exact⟨rfl,rfl⟩
  ·have Sy:(a.toList==b.toList)=false:=by simpa using h2
   rw[if_neg h2];clear h2
   go_enter Try.func51,Try.ntmps51
   go_wp2_with (go_at_call 77;refine(Wh _ _).mono ?_;rintro e w' ⟨rfl,rfl⟩)
   go_ret
   exact⟨rfl,rfl⟩
def Oo(x y z:Int):Int:=if x≠0 then x else if y≠0 then y else z
theorem rB(x y z:Int)(b:Nat)(W:World)(h0:W.cell? ⟨b,0,none⟩=some (.int .i64 x))(h1:W.cell? ⟨b,1,none⟩=some (.int .i64 y))(h2:W.cell? ⟨b,2,none⟩=some (.int .i64 z)):
  Calls Try.prog 49 #[.slice (some ⟨b,0,none⟩) 3 3] W λe w'=>e= .returned (.int .i64 (Oo x y z))/\w'=W:=by
 unfold Oo;by_cases hx:x=0
 ·subst hx;by_cases hy:y=0
  ·subst hy;by_cases hz:z=0
   ·subst hz
    go_enter Try.func49,Try.ntmps49
    go_wp2
    refine wp_loop_rounds 4 ?_;rw[rounds_succ]
    go_wp2
    rw[rounds_succ]
    go_wp2
    rw[rounds_succ]
    go_wp2
    rw[rounds_succ]
    go_wp2
    go_ret
    exact⟨rfl,rfl⟩
   ·go_enter Try.func49,Try.ntmps49
    go_wp2
    refine wp_loop_rounds 3 ?_;rw[rounds_succ]
    go_wp2
    rw[rounds_succ]
    go_wp2
    rw[rounds_succ]
    go_wp2
    go_ret
    exact⟨rfl,rfl⟩
  ·rw[if_neg (by simp),if_pos hy]
   go_enter Try.func49,Try.ntmps49
   go_wp2
   refine wp_loop_rounds 2 ?_;rw[rounds_succ]
   go_wp2
   rw[rounds_succ]
   go_wp2
   go_ret
   exact⟨rfl,rfl⟩
 ·rw[if_pos hx]
  go_enter Try.func49,Try.ntmps49
  go_wp2
  refine wp_loop_rounds 1 ?_;rw[rounds_succ]
  go_wp2
  go_ret
  exact⟨rfl,rfl⟩
def ZT(t1 g1:Int)(k1:ByteArray)(t2 g2:Int)(k2:ByteArray):Int:=Oo (Lib.compareInt t1 t2) (Lib.compareInt g1 g2) (LH k1 k2)
theorem pQ(t1 g1:Int)(k1 v1:ByteArray)(d1:Bool)(t2 g2:Int)(k2 v2:ByteArray)(d2:Bool)(W:World):
  Calls Try.prog 30 #[.agg #[.int .i64 t1, .int .i64 g1, .string k1, .string v1, .bool d1], .agg #[.int .i64 t2, .int .i64 g2, .string k2, .string v2, .bool d2]] W λe w'=>
   e= .returned (.int .i64 (ZT t1 g1 k1 t2 g2 k2))/\ ∃q os',w'=grow (W.drewN q) os':=by
 unfold ZT;have LS:=Try.cmp_Compare_int;have Bg:=oR;have cX:=rB
 go_enter Try.func30,Try.ntmps30
 go_wp2_with fail
 have c0:∀A B:Obj,((W.alloc A).alloc B).drew.heap[W.heap.size]?=some A:=λA B=>by show((W.heap.push A).push B)[W.heap.size]?=some A;simp[Array.getElem?_push]
 have c1:∀A B:Obj,((W.alloc A).alloc B).drew.heap[W.heap.size+1]?=some B:=λA B=>by
  show((W.heap.push A).push B)[W.heap.size+1]?=some B;have h:W.heap.size+1=(W.heap.push A).size:=by simp
  rw[h,Array.getElem?_push_size]
 have hd:∀A B:Obj,∃q os,((W.alloc A).alloc B).drew=grow (W.drewN q) os:=λA B=>⟨1, #[A,B],by rw[alloc_eq_grow,alloc_eq_grow,grow_grow];rfl⟩
 refine wp_region_still_tail 15 (by kernel_rfl) (by kernel_rfl) ?_;simp only[List.take_succ_cons,List.take_zero,List.drop_succ_cons,List.drop_zero];change wpStill _ _ (World.drew _) (λa'=>wpList _ _ _ _ a' (World.drew _)) _ _;have b0:=Vo (c0 (.cells #[.int .i64 t1, .int .i64 g1, .string k1, .string v1, .bool d1] 55) (.cells #[.int .i64 t2, .int .i64 g2, .string k2, .string v2, .bool d2] 55));have b1:=Vo (c1 (.cells #[.int .i64 t1, .int .i64 g1, .string k1, .string v1, .bool d1] 55) (.cells #[.int .i64 t2, .int .i64 g2, .string k2, .string v2, .bool d2] 55));have hq:=hd (.cells #[.int .i64 t1, .int .i64 g1, .string k1, .string v1, .bool d1] 55) (.cells #[.int .i64 t2, .int .i64 g2, .string k2, .string v2, .bool d2] 55);clear c0 c1 hd;generalize ((W.alloc (.cells #[.int .i64 t1, .int .i64 g1, .string k1, .string v1, .bool d1] 55)).alloc (.cells #[.int .i64 t2, .int .i64 g2, .string k2, .string v2, .bool d2] 55)).drew=W2 at*;obtain⟨q,os,hq⟩:=hq;have HQ:=Lib.hid hq;clear hq
 repeat still_step
 still_call (LS _ _ _)
 repeat still_step
 still_call (LS _ _ _)
 repeat still_step
 still_call (Bg _ _ _)
 refine wpStill_nil ?_;change wpList _ _ _ _ _ W2
 go_wp2_with (go_at_call 49;refine(cX (Lib.compareInt t1 t2) (Lib.compareInt g1 g2) (LH k1 k2) _ _ (by simp) (by simp) (by simp)).mono ?_;rintro e w' ⟨rfl,rfl⟩)
 have H:=HQ.out
 go_ret
 exact⟨rfl,q,_,by rw[H,alloc_eq_grow,grow_grow]⟩
end Go.Proofs.Yteeafhlnofapaaa
end
noncomputable section
namespace Go.Proofs
open Go.Shelf
def Try.du:Go.Shelf.Ren:=⟨λ|6=>29|15=>48|14=>47|28=>74|29=>75|20=>66|21=>67|22=>68|23=>69|24=>70|25=>71|26=>72|27=>73|46=>85|47=>86|48=>87|49=>88|50=>89|57=>91|n=>n,λ|22=>28|24=>55|25=>70|3=>3|39=>89|0=>0|53=>107|55=>36|4=>4|46=>100|45=>99|50=>104|5=>5|9=>9|66=>112|70=>116|76=>118|77=>119|n=>n,λ|n=>n⟩
theorem Try.dv:Go.Proofs.SlLaysF0.n6 Try.prog Try.du:={
 mixed:=by kernel_rfl
 f6:=⟨Try.f29.name,by decide,Try.func29.trans (congrArg some (by kernel_rfl))⟩
 f14:=⟨Try.f47.name,by decide,Try.func47.trans (congrArg some (by kernel_rfl))⟩
 f15:=Try.func48.trans (congrArg some (by kernel_rfl))
 f20:=⟨Try.f66.name,by decide,Try.func66.trans (congrArg some (by kernel_rfl))⟩
 f21:=⟨Try.f67.name,by decide,Try.func67.trans (congrArg some (by kernel_rfl))⟩
 f22:=⟨Try.f68.name,by decide,Try.func68.trans (congrArg some (by kernel_rfl))⟩
 f23:=⟨Try.f69.name,by decide,Try.func69.trans (congrArg some (by kernel_rfl))⟩
 f24:=⟨Try.f70.name,by decide,Try.func70.trans (congrArg some (by kernel_rfl))⟩
 f25:=⟨Try.f71.name,by decide,Try.func71.trans (congrArg some (by kernel_rfl))⟩
 f26:=⟨Try.f72.name,by decide,Try.func72.trans (congrArg some (by kernel_rfl))⟩
 f27:=⟨Try.f73.name,by decide,Try.func73.trans (congrArg some (by kernel_rfl))⟩
 f28:=Try.func74.trans (congrArg some (by kernel_rfl))
 f29:=Try.func75.trans (congrArg some (by kernel_rfl))
 f46:=⟨Try.f85.name,by decide,Try.func85.trans (congrArg some (by kernel_rfl))⟩
 f47:=Try.func86.trans (congrArg some (by kernel_rfl))
 f48:=Try.func87.trans (congrArg some (by kernel_rfl))
 f49:=⟨Try.f88.name,by decide,Try.func88.trans (congrArg some (by kernel_rfl))⟩
 f50:=⟨Try.f89.name,by decide,Try.func89.trans (congrArg some (by kernel_rfl))⟩
 f57:=⟨Try.f91.name,by decide,Try.func91.trans (congrArg some (by kernel_rfl))⟩
 t0:=Try.underlying0
 a0:=Try.isAgg0
 z0:=Try.sizeOf0
 v0:=Try.zeroValue0
 t3:=Try.underlying3
 a3:=Try.isAgg3
 z3:=Try.sizeOf3
 v3:=Try.zeroValue3
 t4:=Try.underlying4
 a4:=Try.isAgg4
 z4:=Try.sizeOf4
 v4:=Try.zeroValue4
 t5:=Try.underlying5
 a5:=Try.isAgg5
 z5:=Try.sizeOf5
 v5:=Try.zeroValue5
 t9:=Try.underlying9
 a9:=Try.isAgg9
 z9:=Try.sizeOf9
 v9:=Try.zeroValue9
 t22:=Try.underlying28
 a22:=Try.isAgg28
 z22:=Try.sizeOf28
 v22:=Try.zeroValue28
 t25:=Try.underlying70
 a25:=Try.isAgg70
 z25:=Try.sizeOf70
 v25:=Try.zeroValue70
 t39:=Try.underlying89
 a39:=Try.isAgg89
 z39:=Try.sizeOf89
 v39:=Try.zeroValue89
 t45:=Try.underlying99
 a45:=Try.isAgg99
 z45:=Try.sizeOf99
 v45:=Try.zeroValue99
 t46:=Try.underlying100
 a46:=Try.isAgg100
 z46:=Try.sizeOf100
 v46:=Try.zeroValue100
 t50:=Try.underlying104
 a50:=Try.isAgg104
 z50:=Try.sizeOf104
 v50:=Try.zeroValue104
 t53:=Try.underlying107
 a53:=Try.isAgg107
 z53:=Try.sizeOf107
 v53:=Try.zeroValue107
 t55:=Try.underlying36
 a55:=Try.isAgg36
 z55:=Try.sizeOf36
 v55:=Try.zeroValue36
 t66:=Try.underlying112
 a66:=Try.isAgg112
 z66:=Try.sizeOf112
 v66:=Try.zeroValue112
 t70:=Try.underlying116
 a70:=Try.isAgg116
 z70:=Try.sizeOf116
 v70:=Try.zeroValue116
 t76:=Try.underlying118
 a76:=Try.isAgg118
 z76:=Try.sizeOf118
 v76:=Try.zeroValue118
 t77:=Try.underlying119
 a77:=Try.isAgg119
 z77:=Try.sizeOf119
 v77:=Try.zeroValue119}
end Go.Proofs
end
noncomputable section
namespace Go.Proofs.Yteeafhlnofapaaa
open Go.RowKit
theorem B6{α:Type}{xs:List α}{i:Nat}(h:i<xs.length):getI xs (i:Int)=some xs[i]:=by simp[getI,h]
theorem Zx{α:Type}{xs:List α}{i:Int}(h0:0<=i)(h:i<xs.length):∃x,getI xs i=some x/\x∈xs/\xs[i.toNat]?=some x:=by
 have hi:i.toNat<xs.length:=by omega
 exact⟨xs[i.toNat],by simp[getI,h0,hi],Bh hi,by simp[hi]⟩
theorem EK{q n:Nat}(h:q<n)(hn:n<=9223372036854775807):IntKind.i64.wrap ((q:Int)+1)=((q+1:Nat):Int):=by rw[D1 (by omega) (by omega)];simp
theorem C2{α:Type}{p:Prop}{k:Option α}(h:p):req p k=k:=by simp[req,h]
def FU{α σ β:Type}(step:α->σ->Option (σ ⊕ Option β))(fin:σ->Option β):List α->σ->Option β
 | [],s=>fin s
 |x::xs,s=>match step x s with
  |none=>none
  |some (.inl s')=>FU step fin xs s'
  |some (.inr o)=>o
def LC{σ τ β:Type}(f:σ->τ):Option (σ ⊕ Option β)->Option (τ ⊕ Option β)
 |none=>none
 |some (.inl s)=>some (.inl (f s))
 |some (.inr o)=>some (.inr o)
theorem lH{α σ τ β:Type}{xs:List α}{body:τ->Option (τ ⊕ Option β)}(emb:Int->σ->τ)(step:α->σ->Option (σ ⊕ Option β))(fin:σ->Option β)(q0:Nat)
  (hs:∀(i:Nat) (hi:i<xs.length) (s:σ),q0<=i->body (emb i s)=LC (emb ((i+1:Nat):Int)) (step xs[i] s)) (he:∀s,body (emb xs.length s)=some (.inr (fin s))) (s:σ) (h0:q0<=xs.length):Bp body (emb q0 s)=FU step fin (xs.drop q0) s:=by
 have key:∀(n q:Nat) (s:σ),q0<=q->q+n=xs.length->Bp body (emb q s)=FU step fin (xs.drop q) s:=by
  intro n
  induction n with
  |zero=>
   intro q s _ hq;have:q=xs.length:=by omega
   subst this;rw[Ec,he s];simp[FU]
  |succ n ih=>
   intro q s h0 hq;have AE:q<xs.length:=by omega
   rw[Ec,hs q AE s h0,A7 AE];rcases IN:step xs[q] s with _|s'|o
   ·simp[FU,IN,LC]
   ·simp only[FU,IN,LC];exact ih (q+1) s' (by omega) (by omega)
   ·simp[FU,IN,LC]
 exact key (xs.length-q0) q0 s (Ax _) (by omega)
theorem YE{α σ τ β:Type}{xs:List α}{body:τ->Option (τ ⊕ Option β)}(emb:Int->σ->τ)(step:α->σ->Option (σ ⊕ Option β))(fin:σ->Option β)
  (hs:∀(i:Nat) (hi:i<xs.length) (s:σ),body (emb i s)=LC (emb ((i+1:Nat):Int)) (step xs[i] s)) (he:∀s,body (emb xs.length s)=some (.inr (fin s))) (s:σ):Bp body (emb 0 s)=FU step fin xs s:=by
 have:=lH emb step fin 0 (λi hi s _=>hs i hi s) he s (by omega);simpa using this
theorem nU{α σ β:Type}{step:α->σ->Option (σ ⊕ Option β)}{fin:σ->Option β}{xs:List α}(p:α->Bool)(b:β)(h:∀x∈xs,∀s,step x s=some (if p x=true then .inl s else .inr (some b)))(s:σ):FU step fin xs s=if xs.all p=true then fin s else some b:=by
 induction xs with
 |nil=>simp[FU]
 |cons x xs ih=>
  simp only[FU,h x (by simp) s];cases hp:p x with
  |true=>simp[hp,ih λy hy=>h y (by simp[hy])]
  |false=>simp[hp]
theorem nQ{α σ β:Type}{step:α->σ->Option (σ ⊕ Option β)}{fin:σ->Option β}{xs:List α}(f:σ->α->σ)(I:σ->Prop)(hI:∀x∈xs,∀s,I s->I (f s x))(h:∀x∈xs,∀s,I s->step x s=some (.inl (f s x))){s:σ}(hs:I s):FU step fin xs s=fin (xs.foldl f s):=by
 induction xs generalizing s with
 |nil=>simp[FU]
 |cons x xs ih=>simp only[FU,h x (by simp) s hs,List.foldl_cons];exact ih (λy hy=>hI y (by simp[hy])) (λy hy=>h y (by simp[hy])) (hI x (by simp) s hs)
theorem lF{α σ τ β:Type}{xs:List α}{body:τ->Option (τ ⊕ Option β)}(emb:Int->σ->τ)(f:σ->α->σ)(fin:σ->Option β)(I:Nat->σ->Prop)
  (hs:∀(i:Nat) (hi:i<xs.length) (s:σ),I i s->body (emb i s)=some (.inl (emb ((i+1:Nat):Int) (f s xs[i])))/\I (i+1) (f s xs[i])) (he:∀s,I xs.length s->body (emb xs.length s)=some (.inr (fin s))) {s:σ} (h0:I 0 s):Bp body (emb 0 s)=fin (xs.foldl f s)/\I xs.length (xs.foldl f s):=by
 have key:∀(n q:Nat) (s:σ),q+n=xs.length->I q s->Bp body (emb q s)=fin ((xs.drop q).foldl f s)/\I xs.length ((xs.drop q).foldl f s):=by
  intro n
  induction n with
  |zero=>
   intro q s hq hI;have:q=xs.length:=by omega
   subst this;rw[Ec,he s hI];simp[hI]
  |succ n ih=>
   intro q s hq hI;have AE:q<xs.length:=by omega
   obtain⟨h1,h2⟩:=hs q AE s hI;rw[Ec,h1,A7 AE,List.foldl_cons];exact ih (q+1) _ (by omega) h2
 have:=key xs.length 0 s (by omega) h0;simpa using this
theorem ZH{α:Type}{xs:List α}{p:α->Option Bool}(q:α->Bool)(hp:∀x∈xs,p x=some (q x))(hn:xs.length<=9223372036854775806):Lc xs p=some (xs.any q):=by
 have key:∀(l:List α) (i:Int),0<=i->(∀x∈l,p x=some (q x))-> ∃r,Kd p l i=some r/\decide (r>=0)=l.any q:=by
  intro l
  induction l with
  |nil=>intro i _ _;exact⟨-1,rfl,by simp⟩
  |cons x l ih=>
   intro i hi h;simp only[Kd,h x (by simp),Af];cases hq:q x with
   |true=>exact⟨i,by simp,by simp[hq,hi]⟩
   |false=>obtain⟨r,h1,h2⟩:=ih (i+1) (by omega) λy hy=>h y (by simp[hy]);exact⟨r,by simp[h1],by simp[hq,h2]⟩
 obtain⟨r,h1,h2⟩:=key xs 0 (by omega) hp;simp[Lc,OU,C2 hn,h1,h2]
theorem Vk{β:Type}{n:Nat}{body:Int->Option (Int ⊕ Option β)}(p:Nat->Bool)(b:β)(fin:Option β)
  (hs:∀i:Nat,i<n->body i=some (if p i=true then .inl ((i+1:Nat):Int)else .inr (some b))) (he:body n=some (.inr fin)):Bp body 0=if(List.range n).all p=true then fin else some b:=by
 have h1:=YE (xs:=List.range n) (body:=body) (λi (_:Unit)=>i) (λi _=>some (if p i=true then .inl ()else .inr (some b))) (λ_=>fin)
  (λi hi s=>by rw[List.length_range]at hi;rw[hs i hi,List.getElem_range];cases p i<;>simp[LC]) (λs=>by simpa using he) ()
 rw[nU p b λx _ s=>rfl]at h1;exact h1
def DD{α:Type}(p:α->Bool)(l:List α):Int:=match l.findIdx? p with|some i=>(i:Int)|none=> -1
theorem VH{α:Type}(p:α->Bool):DD p []= -1:=rfl
theorem Vm{α:Type}(p:α->Bool)(x:α)(l:List α):DD p (x::l)=if p x=true then 0 else if DD p l= -1 then-1 else DD p l+1:=by
 unfold DD;rw[List.findIdx?_cons];cases p x with
 |true=>simp
 |false=>
  cases h:l.findIdx? p with
  |none=>simp
  |some i=>simp<;>omega
theorem RV{α:Type}(p:α->Bool)(l:List α): -1<=DD p l:=by unfold DD;split<;>omega
theorem mN{α:Type}(p:α->Bool)(l:List α):decide (DD p l>=0)=l.any p:=by
 induction l with
 |nil=>simp[VH]
 |cons x l ih=>
  have h1:=RV p l;rw[Vm,List.any_cons,<-ih];cases p x with
  |true=>simp
  |false=>
   by_cases h:DD p l= -1
   ·simp[h]
   ·have:DD p l>=0:=by omega
    simp[h,this];try omega
theorem mK{α:Type}{p:α->Bool}{l:List α}(h:DD p l>=0):∃x,getI l (DD p l)=some x/\p x=true/\x∈l:=by
 induction l with
 |nil=>simp[VH]at h
 |cons y l ih=>
  rw[Vm]at h ⊢;cases hy:p y with
  |true=>exact⟨y,by simp[getI],hy,by simp⟩
  |false=>
   have h1:=RV p l;by_cases hm:DD p l= -1
   ·rw[hy,hm]at h;simp at h
   ·have h0:DD p l>=0:=by omega
    obtain⟨x,e1,e2,e3⟩:=ih h0;obtain⟨_,e4,e5⟩:=Wk e1;refine⟨x,?_,e2,by simp[e3]⟩;simp only[B1,if_false,hm];unfold getI;rw[if_pos (by omega),show(DD p l+1).toNat=(DD p l).toNat+1 by omega];simpa using e5
theorem mT{α:Type}{xs:List α}{body:Int->Option (Int ⊕ Option Int)}(p:α->Bool)(hs:∀(i:Nat) (hi:i<xs.length),body i=some (if p xs[i]=true then .inr (some (i:Int))else .inl ((i+1:Nat):Int)))(he:body xs.length=some (.inr (some (-1)))):Bp body 0=some (DD p xs):=by
 have key:∀(n q:Nat),q+n=xs.length->Bp body q=some (if DD p (xs.drop q)= -1 then-1 else q+DD p (xs.drop q)):=by
  intro n
  induction n with
  |zero=>
   intro q hq;have:q=xs.length:=by omega
   subst this;rw[Ec,he];simp[VH]
  |succ n ih=>
   intro q hq;have AE:q<xs.length:=by omega
   rw[Ec,hs q AE,A7 AE,Vm];cases p xs[q]with
   |true=>simp
   |false=>
    simp only[B1,if_false];rw[ih (q+1) (by omega)];have h1:=RV p (xs.drop (q+1));congr 1;by_cases hm:DD p (xs.drop (q+1))= -1
    ·simp[hm]
    ·have h2: ¬(DD p (xs.drop (q+1))+1= -1):=by omega
     simp only[hm,if_false,h2];omega
 have h:=key xs.length 0 (by omega);rw[List.drop_zero]at h;rw[show((0:Nat):Int)=0 from rfl]at h;rw[h];have h1:=RV p xs;by_cases hm:DD p xs= -1
 ·simp[hm]
 ·simp[hm]
abbrev bl(a b:AL):Bool:=Op.bytesLess a b
theorem HE:∀a:AL,bl a a=false
 | []=>rfl
 |x::a=>by
  have h: ¬x<x:=λh=>by have:=UInt8.lt_iff_toNat_lt.1 h;omega
  show Op.bytesLess (x::a) (x::a)=false;simp only[Op.bytesLess,h,decide_false,Bool.false_or,beq_self_eq_true,Bool.true_and];exact HE a
theorem VT(x y:UInt8)(a b:AL):bl (x::a) (y::b)=true↔x.toNat<y.toNat\/x=y/\bl a b=true:=by show Op.bytesLess (x::a) (y::b)=true↔_;simp only[Op.bytesLess,Bool.or_eq_true,Au,Ad,AA,UInt8.lt_iff_toNat_lt]
theorem Ia:∀{a b c:AL},bl a b=true->bl b c=true->bl a c=true
 | [],_,[],_,h=>by rename_i b _;cases b<;>cases h
 | [],_,_::_,_,_=>rfl
 |_::_,[],_,h,_=>by cases h
 |_::_,_::_,[],_,h=>by cases h
 |x::a,y::b,z::c,h1,h2=>by
  rw[VT]at*;rcases h1 with h1|⟨rfl,h1⟩<;>rcases h2 with h2|⟨rfl,h2⟩
  ·exact .inl (by omega)
  ·exact .inl h1
  ·exact .inl h2
  ·exact .inr ⟨rfl,Ia h1 h2⟩
theorem R7:∀a b:AL,bl a b=true\/a=b\/bl b a=true
 | [],[]=> .inr (.inl rfl)
 | [],_::_=> .inl rfl
 |_::_,[]=> .inr (.inr rfl)
 |x::a,y::b=>by
  rw[VT,VT];rcases Nat.lt_trichotomy x.toNat y.toNat with h|h|h
  ·exact .inl (.inl h)
  ·have h0:x=y:=UInt8.toNat_inj.1 h;subst h0;rcases R7 a b with h1|h1|h1
   ·exact .inl (.inr ⟨rfl,h1⟩)
   ·exact .inr (.inl (by rw[h1]))
   ·exact .inr (.inr (.inr ⟨rfl,h1⟩))
  ·exact .inr (.inr (.inl h))
theorem RJ{a b:AL}(h:bl a b=true):bl b a=false:=by
 cases h2:bl b a with
 |false=>rfl
 |true=>have:=Ia h h2;rw[HE]at this;cases this
theorem Ij{a b:AL}(h:bl a b=true):a≠b:=by rintro rfl;rw[HE]at h;cases h
theorem Vh{a b:AL}(h:bl a b=false)(hn:a≠b):bl b a=true:=by
 rcases R7 a b with h1|h1|h1
 ·rw[h]at h1;cases h1
 ·exact absurd h1 hn
 ·exact h1
section
variable {α:Type} (key:α->AL)
def EM(l:List α):Prop:=l.Pairwise λa b=>bl (key a) (key b)=true
def Gi(x:α):List α->List α
 | []=> [x]
 |y::l=>if bl (key x) (key y)=true then x::y::l else if key x=key y then x::l else y::Gi x l
variable {key}
theorem EM.gr{l:List α}(h:EM key l){a b:α}(ha:a∈l)(hb:b∈l)(e:key a=key b):a=b:=by
 induction l with
 |nil=>cases ha
 |cons y l ih=>
  have h1:=List.pairwise_cons.1 h;rcases Ac.1 ha with q1|q1<;>rcases Ac.1 hb with q2|q2
  ·rw[q1,q2]
  ·exact absurd (q1▸e) (Ij (h1.1 _ q2))
  ·exact absurd (q2▸e.symm) (Ij (h1.1 _ q1))
  ·exact ih h1.2 q1 q2
theorem VA{x:α}:∀{l:List α},EM key l-> ∀y,y∈Gi key x l↔y=x\/y∈l/\key y≠key x
 | [],_,y=>by simp[Gi]
 |z::l,h,y=>by
  have h1:=List.pairwise_cons.1 h;unfold Gi;split
  ·rename_i hb;constructor
   ·intro hy;rcases Ac.1 hy with rfl|hy
    ·exact .inl rfl
    ·refine .inr ⟨hy,?_⟩;rcases Ac.1 hy with rfl|hy
     ·exact(Ij hb).symm
     ·exact(Ij (Ia hb (h1.1 _ hy))).symm
   ·rintro(rfl|⟨hy,_⟩)
    ·simp
    ·exact List.mem_cons_of_mem _ hy
  ·rename_i hb;split
   ·rename_i he;constructor
    ·intro hy;rcases Ac.1 hy with rfl|hy
     ·exact .inl rfl
     ·exact .inr ⟨List.mem_cons_of_mem _ hy,λe=>Ij (h1.1 _ hy) (by rw[e,he])⟩
    ·rintro(rfl|⟨hy,hn⟩)
     ·simp
     ·rcases Ac.1 hy with rfl|hy
      ·exact absurd he.symm hn
      ·exact List.mem_cons_of_mem _ hy
   ·rename_i he;rw[Ac,VA h1.2];constructor
    ·rintro(rfl|rfl|⟨hy,hn⟩)
     ·exact .inr ⟨by simp,λe=>he e.symm⟩
     ·exact .inl rfl
     ·exact .inr ⟨List.mem_cons_of_mem _ hy,hn⟩
    ·rintro(rfl|⟨hy,hn⟩)
     ·exact .inr (.inl rfl)
     ·rcases Ac.1 hy with rfl|hy
      ·exact .inl rfl
      ·exact .inr (.inr ⟨hy,hn⟩)
theorem Yx{x:α}:∀{l:List α},EM key l->EM key (Gi key x l)
 | [],_=>by simp[Gi,EM]
 |z::l,h=>by
  have h1:=List.pairwise_cons.1 h;unfold Gi;split
  ·rename_i hb;refine List.pairwise_cons.2 ⟨λy hy=> ?_,h⟩;rcases Ac.1 hy with rfl|hy
   ·exact hb
   ·exact Ia hb (h1.1 _ hy)
  ·rename_i hb;split
   ·rename_i he;exact List.pairwise_cons.2 ⟨λy hy=>by rw[he];exact h1.1 _ hy,h1.2⟩
   ·rename_i he;refine List.pairwise_cons.2 ⟨λy hy=> ?_,Yx h1.2⟩;rcases(VA h1.2 y).1 hy with rfl|⟨hy,_⟩
    ·exact Vh (by simpa using hb) he
    ·exact h1.1 _ hy
theorem EM.ext:∀{a b:List α},EM key a->EM key b->(∀x,x∈a↔x∈b)->a=b
 | [],[],_,_,_=>rfl
 | [],y::b,_,_,h=>absurd ((h y).2 (by simp)) (by simp)
 |x::a,[],_,_,h=>absurd ((h x).1 (by simp)) (by simp)
 |x::a,y::b,ha,hb,h=>by
  have h1:=List.pairwise_cons.1 ha;have h2:=List.pairwise_cons.1 hb;have e:x=y:=by
   rcases Ac.1 ((h x).1 (by simp))with e|hx
   ·exact e
   ·rcases Ac.1 ((h y).2 (by simp))with e|hy
    ·exact e.symm
    ·have:=Ia (h1.1 _ hy) (h2.1 _ hx);rw[HE]at this;cases this
  subst e;rw[EM.ext h1.2 h2.2 λz=> ?_];constructor
  ·intro hz;rcases Ac.1 ((h z).1 (List.mem_cons_of_mem _ hz))with rfl|T4
   ·have:=h1.1 _ hz;rw[HE]at this;cases this
   ·exact T4
  ·intro hz;rcases Ac.1 ((h z).2 (List.mem_cons_of_mem _ hz))with rfl|T4
   ·have:=h2.1 _ hz;rw[HE]at this;cases this
   ·exact T4
theorem EM.filter{l:List α}(h:EM key l)(p:α->Bool):EM key (l.filter p):=List.Pairwise.filter p h
theorem EM.sub{a b:List α}(h:EM key b)(hs:a.Sublist b):EM key a:=List.Pairwise.sublist hs h
theorem Zv{x:α}:∀(l:List α),(Gi key x l).length<=l.length+1
 | []=>by simp[Gi]
 |y::l=>by
  unfold Gi;have:=Zv (x:=x) l;split
  ·simp
  ·split
   ·simp
   ·simp only[AQ];omega
end
end Go.Proofs.Yteeafhlnofapaaa
end
noncomputable section
namespace Go.Proofs.Yteeafhlnofapaaa
open Go.RowKit Go.Sort Go.Shelf
set_option maxRecDepth 100000
def Jo(x y:Am):Int:=Oo (Lib.compareInt x.ab y.ab) (Lib.compareInt x.ah y.ah) (LH ⟨x.ae.toArray⟩ ⟨y.ae.toArray⟩)
def ER(a b:Am):Bool:=if a.ab≠b.ab then decide (a.ab<b.ab)else if a.ah≠b.ah then decide (a.ah<b.ah)else bl a.ae b.ae
theorem YH(x y:Int):(Lib.compareInt x y≠0↔x≠y)/\(Lib.compareInt x y<0↔x<y):=by
 unfold Lib.compareInt;by_cases h1:x<y
 ·simp[h1];omega
 ·by_cases h2:y<x
  ·simp[h1,h2];omega
  ·simp[h1,h2];omega
theorem nV(a b:AL):(LH ⟨a.toArray⟩ ⟨b.toArray⟩<0)↔bl a b=true:=by
 unfold LH;rw[ByteArray.toList_eq,ByteArray.toList_eq];by_cases h1:bl a b=true
 ·rw[if_pos (by simpa using h1)];simp[h1]
 ·rw[if_neg (by simpa using h1)];split<;>simp[h1]
theorem RH(x y:Am):ltOf Jo x y=ER x y:=by
 unfold ltOf Jo ER Oo;obtain⟨a1,a2⟩:=YH x.ab y.ab;obtain⟨b1,b2⟩:=YH x.ah y.ah;by_cases h1:x.ab=y.ab
 ·have e1: ¬Lib.compareInt x.ab y.ab≠0:=by rw[a1];simpa using h1
  rw[if_neg e1,if_neg (show¬x.ab≠y.ab by simpa using h1)];by_cases h2:x.ah=y.ah
  ·have e2: ¬Lib.compareInt x.ah y.ah≠0:=by rw[b1];simpa using h2
   rw[if_neg e2,if_neg (show¬x.ah≠y.ah by simpa using h2)];have:=nV x.ae y.ae;cases hb:bl x.ae y.ae
   ·rw[decide_eq_false];rw[this,hb];simp
   ·rw[decide_eq_true];rw[this,hb]
  ·rw[if_pos (b1.2 h2),if_pos h2];simp only[b2]
 ·rw[if_pos (a1.2 h1),if_pos h1];simp only[a2]
theorem Yi(x:Am):ER x x=false:=by simp[ER,HE]
theorem Vd{a b c:Am}(h1:ER a b=true)(h2:ER b c=true):ER a c=true:=by
 unfold ER at*;by_cases t1:a.ab=b.ab<;>by_cases t2:b.ab=c.ab
 ·rw[if_neg (by simpa using t1)]at h1;rw[if_neg (by simpa using t2)]at h2;rw[if_neg (by simpa using t1.trans t2)];by_cases g1:a.ah=b.ah<;>by_cases g2:b.ah=c.ah
  ·rw[if_neg (by simpa using g1)]at h1;rw[if_neg (by simpa using g2)]at h2;rw[if_neg (by simpa using g1.trans g2)];exact Ia h1 h2
  ·rw[if_pos g2]at h2;rw[if_pos (by rw[g1];exact g2),g1];exact h2
  ·rw[if_pos g1]at h1;rw[if_pos (by rw[<-g2];exact g1),<-g2];exact h1
  ·rw[if_pos g1]at h1;rw[if_pos g2]at h2;simp only[Au]at h1 h2;rw[if_pos (by omega)];simp;omega
 ·rw[if_pos t2]at h2;rw[if_pos (by rw[t1];exact t2),t1];exact h2
 ·rw[if_pos t1]at h1;rw[if_pos (by rw[<-t2];exact t1),<-t2];exact h1
 ·rw[if_pos t1]at h1;rw[if_pos t2]at h2;simp only[Au]at h1 h2;rw[if_pos (by omega)];simp;omega
theorem RY(a b:Am):ER a b=true\/ER b a=true\/(a.ab=b.ab/\a.ah=b.ah/\a.ae=b.ae):=by
 unfold ER;by_cases t1:a.ab=b.ab
 ·rw[if_neg (show¬a.ab≠b.ab by simpa using t1),if_neg (show¬b.ab≠a.ab by simpa using t1.symm)];by_cases g1:a.ah=b.ah
  ·rw[if_neg (show¬a.ah≠b.ah by simpa using g1),if_neg (show¬b.ah≠a.ah by simpa using g1.symm)];rcases R7 a.ae b.ae with h|h|h
   ·exact .inl h
   ·exact .inr (.inr ⟨t1,g1,h⟩)
   ·exact .inr (.inl h)
  ·rw[if_pos g1,if_pos (Ne.symm g1)];simp only[Au];omega
 ·rw[if_pos t1,if_pos (Ne.symm t1)];simp only[Au];omega
theorem Zn{a b c:Am}(h:a.ab=b.ab/\a.ah=b.ah/\a.ae=b.ae):ER a c=ER b c/\ER c a=ER c b:=by unfold ER;rw[h.1,h.2.1,h.2.2];exact⟨rfl,rfl⟩
theorem aN:SWO (ltOf Jo)where
 irrefl x:=by rw[RH];exact Yi x
 trans x y z h1 h2:=by rw[RH]at*;exact Vd h1 h2
 ntrans x y z h1 h2:=by
  rw[RH]at*;rcases RY x y with h|h|h
  ·rw[h]at h1;cases h1
  ·rcases RY y z with k|k|k
   ·rw[k]at h2;cases h2
   ·have dY:=Vd k h;cases dT:ER x z
    ·rfl
    ·have:=Vd dY dT;rw[Yi]at this;cases this
   ·rw[<-(Zn (c:=x) k).2];exact h1
  ·rw[(Zn (c:=z) h).1];exact h2
instance:Inhabited Am:=⟨⟨0,0,[],[],false⟩⟩
def Ex(d:Array Am):Array Am:=pdq (ltOf Jo) d 0 d.size (Lib.bitLen d.size) true true
theorem YQ(d:Array Am):(Ex d).toList.Perm d.toList/\(Ex d).size=d.size/\SortedIn (ltOf Jo) 0 d.size (Ex d):=by
 obtain⟨⟨h1,_,h2⟩,h3⟩:=pdq_sorts (ltOf Jo) aN d 0 d.size (Lib.bitLen d.size) true true (Nat.zero_le _) (Ax _) (Or.inl rfl);have e:(Ex d).extract 0 d.size=Ex d:=by have:d.size=(Ex d).size:=h1.symm;rw[this];simp
 refine⟨?_,h1,h3⟩;have Sy:((Ex d).extract 0 d.size).toList.Perm (d.extract 0 d.size).toList:=h2;rw[e]at Sy;simpa using Sy
theorem lI(blk cap:Nat)(d:Array Am)(w:World)(hH:HoldsK (Dm H6) 5 w blk 0 d)(hblk:blk<w.heap.size)(BK:d.size<4611686018427387904):
  Calls Try.prog 29 #[.slice (some ⟨blk,0,none⟩) d.size cap, .func (.func 30) #[] #[]] w λe w'=>e= .returned (.tuple #[])/\ ∃n os,w'=sortWorldK (Dm H6) 5 w blk 0 n (Ex d) os:=by
 have eg:∀args w,(callFunc 30 args).run Try.prog w= .ok (.enter 30 args) w:=enters_of Try.func30 (by kernel_rfl) rfl;have SY:CmpLays Try.prog 30 #[] (Dm H6) 5 Jo blk 0 d.size w:=λm os dk hs x y=>pQ x.ab x.ah ⟨x.ae.toArray⟩ ⟨x.aw.toArray⟩ x.aq y.ab y.ah ⟨y.ae.toArray⟩ ⟨y.aw.toArray⟩ y.aq _;exact AnyQ.slices_SortFunc_eq Try.dv 5 Try.isAgg55 Try.sizeOf55 (Dm H6) (λ_=>rfl) (λx v hv=>by simp only[Dm,H6,AV.cells,List.map_cons,List.map_nil,AV.val,Ac,List.not_mem_nil,or_false]at hv;rcases hv with rfl|rfl|rfl|rfl|rfl<;>rfl) Jo aN 30 #[] blk 0 cap d w eg SY hH hblk BK
theorem kG(p:Option Addr)(cap:Nat)(fv:Value)(w:World):Calls Try.prog 29 #[.slice p 0 cap,fv] w λe w'=>e= .returned (.tuple #[])/\w'=w:=
 AnyF.slices_SortFunc_none Try.dv p cap fv w
def Rj(g:Nat)(caps:List AV)(xs:List Am):Option (Unit × List Am):=req (g=30/\caps=[]/\xs.length<4611686018427387904) (some ((),(Ex xs.toArray).toList))
theorem gE{g:Nat}{caps:List AV}{xs:List Am}{r:Unit × List Am}(h:Rj g caps xs=some r):
  CI Try.prog CH 29 [.sl (xs.map H6), .fn g caps] (.tup [.tup [], .sl (r.2.map H6)]):=by
 obtain⟨hc,hr⟩:=HT h;obtain⟨rfl,rfl,hb⟩:=hc;cases hr;exact nB (ft:=(match Try.prog.funcs[29]? with|some fn=>fn.params.toList.getD 1 0|none=>0)) (t:=28) (el:=55) (k:=5) Ex (by kernel_rfl) (λx y hy=>by simp only[H6,AV.cells,Ac,List.not_mem_nil,or_false]at hy;rcases hy with rfl|rfl|rfl|rfl|rfl<;>rfl) (λ_=>rfl) (λd=>(YQ d).1) lI kG xs hb
end Go.Proofs.Yteeafhlnofapaaa
end
noncomputable section
namespace Go.Proofs.Yteeafhlnofapaaa
open Go.RowKit
def V5(P:Program)(f el k:Nat):Prop:= ∀(w:World) (v:Value) (n:Nat) (own:List Nat),((∃q,v= .slice q 0 0)\/ ∃g cap C,v= .slice (some ⟨g,0,none⟩) 0 cap/\Jm w el k g cap C 0 []/\g∈own)->n*1000<=140737488355328->
 Calls P f #[v, .int .i64 n] w λe w'=> ∃u,e= .returned u/\Mod [] w w'/\((∃q,u= .slice q 0 0)\/ ∃g cap C,u= .slice (some ⟨g,0,none⟩) 0 cap/\Jm w' el k g cap C 0 []/\(g∈own\/w.heap.size<=g))
def Wy(P:Program)(sg:Br)(f:Nat)(t it el K:Nat):Bool:=
 match P.funcs[f]?,sg f with
 |some fn,some s=>(match s.bg,s.res,s.ft,s.lo with
  | [.va [true], .ro],[true],[],[]=>true
  |_,_,_,_=>false)&&fn.body.isSome&& !(fn.name== "runtime.NumGoroutine")&&fn.params.toList==[t,it]&&fn.resultTypes.toList==[t]&&fn.nfree==0&& !Ag P t&&AR P t==[t]&&Cb P t==some el&&BI P el&&P.cellsOf el==K&&FM P t [true]&&fn.params.size==2
 |_,_=>false
theorem nC{f t it el K:Nat}(hk:Wy Try.prog CH f t it el K=true)(Ej:∀r,Wi Try.prog CH f r=true)(KB:V5 Try.prog f el K)(i:Int)(h0:0<=i)(hb:i*1000<=140737488355328):
  CI Try.prog CH f [.sl [], .int .i64 i] (.sl []):=by
 unfold Wy at hk;split at hk
 ·rename_i fn s hf hs;simp only[Ad,Bn,AA]at hk;obtain⟨⟨⟨⟨⟨⟨⟨⟨⟨⟨⟨⟨g1,g2⟩,g3⟩,g4⟩,g5⟩,g6⟩,g7⟩,g8⟩,g9⟩,g10⟩,g11⟩,g12⟩,g13⟩:=hk;obtain⟨hm,hr,Dr,BH⟩:s.bg=[.va [true], .ro]/\s.res=[true]/\s.ft=[]/\s.lo=[]:=by
   split at g1
   ·rename_i a b c d;exact⟨a,b,c,d⟩
   ·cases g1
  unfold CI;rw[if_pos (MN f s hs)];refine⟨s,hs,fn,hf,g2,g3,by have:=Ej [];unfold Wi at this;rw[hf,hs]at this;exact this,by simp[g6,g13],by simp[Dr],λw vs rf lf AY Ai hd _ BP DP=> ?_⟩;rw[g4,Dr,AG,hm,BH]at Ai;cases Ai with
  |lent h _ _ _=>cases h
  | @cons _ _ _ _ v1 vs1 _ _ f1 k1 rf1 lf1 Bj a1 Ai=>
   cases Ai with
   |lent h _ _ _=>cases h
   | @cons _ _ _ _ v2 vs2 _ _ f2 k2 rf2 lf2 AN a2 Ai=>
    cases Ai;obtain⟨rfl,r1⟩:=YC g7 g8 g9 g10 a1;obtain⟨a2,rfl⟩:Rd w [v2] [AV.int .i64 i] f2/\k2=[]:=a2;obtain⟨us,rfl2,hI,a2⟩:=ZY a2;obtain⟨rfl,rfl⟩:=Zy a2;cases rfl2;obtain⟨xs',cs,e1,p0,p1,p2,p3,p4,p5⟩:=r1.jz;cases e1;rw[g11]at p0 p2 p5;have hc:=KB w v1 i.toNat k1 (by
     rcases p5 with⟨_,_,q,rfl⟩|⟨g,cap,C,rfl,h,rfl⟩
     ·exact .inl ⟨q,rfl⟩
     ·have Bg:cs=[]:=List.length_eq_zero_iff.1 (by simpa using p2);subst Bg;exact .inr ⟨g,cap,C,rfl,h,by simp⟩) (by omega)
    rw[show((i.toNat:Nat):Int)=i by omega]at hc;refine hc.mono ?_;rintro e w' ⟨u,rfl,BT,hu⟩;obtain⟨hh,A9,SP⟩:∃hh:List Nat,Cp w' el K u (.sl []) hh []/\hh.Nodup/\ ∀b∈hh,(b∈k1\/w.heap.size<=b)/\b<w'.heap.size:=by
     rcases hu with⟨q,rfl⟩|⟨g,cap,C,rfl,⟨z1,z2,z3,z4,z5⟩,Fy⟩
     ·exact⟨[],⟨[],rfl,by simp,p0, .inl ⟨rfl,⟨q,rfl⟩,rfl,rfl⟩⟩,by simp,by simp⟩
     ·exact⟨[g],⟨[],rfl,by simp,p0, .inr ⟨g,cap,C,rfl,z1,z2,z3,z4,rfl,by simp,by simpa[Ar]using Rd.nil⟩⟩,by simp,λb hb=>by simp only[List.mem_singleton]at hb;subst hb;exact⟨Fy,EI z3⟩⟩
    refine⟨_,rfl,⟨⟨_,[],[],hh,[],[],rfl,?_,?_,by simpa using SP.1,?_,by simp⟩,BT.weaken λb hb=>by simp at hb⟩⟩
    ·rw[g5];show EN Try.prog w' t s.res _ _ [] hh;unfold EN;rw[hr,if_pos g12];refine⟨[u],[.sl []],by rw[g7];simp,?_⟩;rw[g8];have:=B5.own (P:=Try.prog) (t:=t) (ts:=[]) (fl:=[true]) (us:=[]) (ys:=[]) (rf:=[]) (hs:=[]) rfl g9 (.inl ⟨g10,rfl⟩) (by rw[g11];exact A9) .nil;simpa using this
    ·rw[g4,Dr,AG,hm];exact .va rfl (.ro rfl .nil)
    ·intro b hb;simp only[AG]at hb;exact⟨(SP.2 b hb).1.imp (λh=>by simp[h]) id,(SP.2 b hb).2⟩
 ·cases hk
def Sb{α:Type}(xs:List α)(i:Int):Option (List α):=req (xs=[]/\0<=i/\i*1000<=140737488355328) (some [])
theorem oJ{f t it el K:Nat}(hk:Wy Try.prog CH f t it el K=true)(Ej:∀r,Wi Try.prog CH f r=true)(KB:V5 Try.prog f el K){α:Type}{av:α->AV}{xs r:List α}{i:Int}(h:Sb xs i=some r):
  CI Try.prog CH f [.sl (xs.map av), .int .i64 i] (.sl (r.map av)):=by
 obtain⟨⟨h0,h1,h2⟩,h⟩:=HT h;cases h;subst h0;exact nC hk Ej KB i h1 h2
end Go.Proofs.Yteeafhlnofapaaa
end
noncomputable section
namespace Go.Proofs
open Go.Shelf
def Try.dg:Go.Shelf.Ren:=⟨λ|4=>38|n=>n,λ|22=>28|25=>55|3=>3|4=>4|9=>9|20=>20|0=>0|n=>n,λ|n=>n⟩
theorem Try.de:Go.Proofs.Lays8.n4 Try.prog Try.dg:={
 mixed:=by kernel_rfl
 f4:=⟨Try.f38.name,by decide,Try.func38.trans (congrArg some (by kernel_rfl))⟩
 t0:=Try.underlying0
 a0:=Try.isAgg0
 z0:=Try.sizeOf0
 v0:=Try.zeroValue0
 t3:=Try.underlying3
 a3:=Try.isAgg3
 z3:=Try.sizeOf3
 v3:=Try.zeroValue3
 t4:=Try.underlying4
 a4:=Try.isAgg4
 z4:=Try.sizeOf4
 v4:=Try.zeroValue4
 t9:=Try.underlying9
 a9:=Try.isAgg9
 z9:=Try.sizeOf9
 v9:=Try.zeroValue9
 t20:=Try.underlying20
 a20:=Try.isAgg20
 z20:=Try.sizeOf20
 v20:=Try.zeroValue20
 t22:=Try.underlying28
 a22:=Try.isAgg28
 z22:=Try.sizeOf28
 v22:=Try.zeroValue28}
end Go.Proofs
end
noncomputable section
namespace Go.Proofs.Yteeafhlnofapaaa
open Go.RowKit Go.Lib
theorem gZ:V5 Try.prog 38 55 5:=by
 have Tj:∃i z,Try.prog.info? 55=some i/\i.size=5/\i.zero=some z/\z.cells.size=5/\i.bytes<=1000/\0<5:=oT (by kernel_rfl);obtain⟨i0,z,hi,hs,hz,Du,Ft,_⟩:=Tj;intro w v n own hv hb;have SM:n*i0.bytes<=140737488355328:=Nat.le_trans (Nat.mul_le_mul_left _ Ft) hb;obtain⟨base,c,cs,rfl,As,Ds,Bg,IA,TJ⟩:∃(base:Option Addr) (c:Nat) (cs:List Value),v= .slice base 0 c/\cs.length=c*i0.size/\(base=none->c=0)/\(∀a,base=some a-> ∀j u,cs[j]?=some u->w.cell? (a.add j)=some u)/\c<=9223372036854775807/\
   ((∃q,Value.slice base 0 c= .slice q 0 0)\/ ∃g cap C,Value.slice base 0 c= .slice (some ⟨g,0,none⟩) 0 cap/\Jm w 55 5 g cap C 0 []/\(g∈own\/w.heap.size<=g)):=by
  rcases hv with⟨q,rfl⟩|⟨g,cap,C,rfl,hr,hg⟩
  ·exact⟨q,0,[],rfl,by simp,λ_=>rfl,λa _ j u hj=>by simp at hj,by omega, .inl ⟨q,rfl⟩⟩
  ·refine⟨_,cap,C.toList,rfl,by rw[hs,BF];exact hr.2.2.2.1,λh=>by simp at h,λa ha j u hj=> ?_,hr.2.1, .inr ⟨g,cap,C,rfl,hr, .inl hg⟩⟩;cases ha;have hblk:=hr.2.2.1;have cC:C[j]?=some u:=by simpa[Array.getElem?_toList]using hj
   rw[Addr.add_lit];simp[World.cell?,hblk,cC]
 by_cases Cu:0+n<=c
 ·refine(Any8.slices_Grow_room Try.de base 0 c n w (by omega) IA (by omega) Cu).mono ?_;rintro e w' ⟨rfl,rfl⟩;exact⟨_,rfl,Mod.refl _ _,TJ⟩
 ·refine(Any8.slices_Grow_grow Try.de i0 z hi hz (by omega) base 0 c n cs w (by omega) (by omega) (by simpa using SM) (by omega) As Ds Bg).mono ?_;rintro e w' ⟨rfl,rfl⟩;refine⟨_,rfl,?_, .inr ⟨_,_,_,rfl,⟨by omega,grownCap_le_maxLen w _ _ _ (by unfold maxLen;omega),heap_alloc_new _ _,?_,by simp⟩, .inr (Ax _)⟩⟩
  ·exact Mod.alloc (Mod.drew (Mod.refl _ _)) _
  ·have h1:=grownCap_ge w (0+n) c 55;simp only[Array.size_append,size_zeroCells,Du,List.size_toArray,As,hs];have:c*5+(0+n-c)*5+(grownCap w (0+n) c 55-(0+n))*5=grownCap w (0+n) c 55*5:=by omega
   exact this
end Go.Proofs.Yteeafhlnofapaaa
end
noncomputable section
namespace Go.Proofs.Yteeafhlnofapaaa
open Go.RowKit
set_option maxRecDepth 100000
set_option maxHeartbeats 4000000
def UH(a0:List Int):Option (Bool):=
 some (decide ((a0.length:Int)>65536))
def Ot(a0:Bx):Option (Int × Bx):=
 if(decide (a0.db<(a0.bf.length:Int)))then
  (getI a0.bf a0.db).bind λy1=>
  if(decide ((IntKind.i64.wrap (a0.db+1))<=(a0.bf.length:Int)))then
   some ((IntKind.i64.wrap y1),(⟨a0.bf,(IntKind.i64.wrap (a0.db+1)),(IntKind.u64.wrap ((IntKind.u64.wrap ((IntKind.u64.wrap (a0.bp*6364136223846793005))+(IntKind.u64.wrap (IntKind.i64.wrap y1))))+1442695040888963407))⟩:Bx))
  else
   some ((IntKind.i64.wrap (IntKind.u64.wrap ((BitVec.ofInt (IntKind.bits .u64) (Int.fdiv (IntKind.u64.wrap ((IntKind.u64.wrap ((IntKind.u64.wrap (a0.bp*6364136223846793005))+(IntKind.u64.wrap (IntKind.i64.wrap y1))))+1442695040888963407)) (2^(min ((40:Int)).toNat (IntKind.bits .u64))))&&&BitVec.ofInt (IntKind.bits .u64) 255).toNat:Int))),(⟨a0.bf,(IntKind.i64.wrap (a0.db+1)),(IntKind.u64.wrap ((IntKind.u64.wrap ((IntKind.u64.wrap (a0.bp*6364136223846793005))+(IntKind.u64.wrap (IntKind.i64.wrap y1))))+1442695040888963407))⟩:Bx))
 else
  if(decide ((IntKind.i64.wrap (a0.db+1))<=(a0.bf.length:Int)))then
   some (0,(⟨a0.bf,(IntKind.i64.wrap (a0.db+1)),(IntKind.u64.wrap ((IntKind.u64.wrap ((IntKind.u64.wrap (a0.bp*6364136223846793005))+(IntKind.u64.wrap 0)))+1442695040888963407))⟩:Bx))
  else
   some ((IntKind.i64.wrap (IntKind.u64.wrap ((BitVec.ofInt (IntKind.bits .u64) (Int.fdiv (IntKind.u64.wrap ((IntKind.u64.wrap ((IntKind.u64.wrap (a0.bp*6364136223846793005))+(IntKind.u64.wrap 0)))+1442695040888963407)) (2^(min ((40:Int)).toNat (IntKind.bits .u64))))&&&BitVec.ofInt (IntKind.bits .u64) 255).toNat:Int))),(⟨a0.bf,(IntKind.i64.wrap (a0.db+1)),(IntKind.u64.wrap ((IntKind.u64.wrap ((IntKind.u64.wrap (a0.bp*6364136223846793005))+(IntKind.u64.wrap 0)))+1442695040888963407))⟩:Bx))
def H5(a0:Bx)(a1:Int):Option (Int × Bx):=
 if(decide (a1<=1))then
  some (0,a0)
 else
  (Ot a0).bind λv1=>
  if(decide (a1>200))then
   (Ot v1.2).bind λv2=>
   req (a1≠0)<|
   some ((Int.tmod (IntKind.i64.wrap ((IntKind.i64.wrap (v1.1*256))+v2.1)) a1),(⟨v2.2.bf,v2.2.db,v2.2.bp⟩:Bx))
  else
   req (a1≠0)<|
   some ((Int.tmod v1.1 a1),(⟨v1.2.bf,v1.2.db,v1.2.bp⟩:Bx))
def L0(a0:Bx)(a1:Int):Option (Bool × Bx):=
 (H5 a0 a1).bind λv1=>
 some ((v1.1==0),v1.2)
def QD(a0:Bx)(a1:List (AL)):Option (AL × Bx):=
 (H5 a0 (a1.length:Int)).bind λv1=>
 (getI a1 v1.1).bind λy2=>
 some (y2,v1.2)
def QF(a0:Bx):Option (AL × Bx):=
 (QD a0 ([([]:AL),([49]:AL),([55]:AL),([49,48]:AL),([45,51]:AL),([120]:AL),([97,44,98,95,99]:AL)]:List (AL))).bind λv1=>
 some (v1.1,v1.2)
def QI(a0:Bx)(a1:AL):Option (DA × Bx):=
 (L0 a0 4).bind λv1=>
 if v1.1 then
  some ((⟨a1,([]:AL),true⟩:DA),v1.2)
 else
  (QF v1.2).bind λv2=>
  some ((⟨a1,v2.1,false⟩:DA),v2.2)
def Ue(v1:List DA)(v2:Int)(v3:List Int)(v4 v5:Int):Option ((List DA × Int × List Int × Int × Int) ⊕ Option (List DA × Bx)):=
 if(decide (v2<([([97]:AL),([98]:AL),([99]:AL),([105,47,120,47,49]:AL),([109]:AL),([110]:AL),([114,47,49]:AL),([122]:AL)].length:Int)))then
  (getI [([97]:AL),([98]:AL),([99]:AL),([105,47,120,47,49]:AL),([109]:AL),([110]:AL),([114,47,49]:AL),([122]:AL)] v2).bind λy6=>
  (L0 (⟨v3,v4,v5⟩:Bx) 4).bind λv7=>
  if v7.1 then
   (QI v7.2 y6).bind λv8=>
   req ((((v1).length:Int)+(([v8.1]:List DA).length:Int))*40<=140737488355328/\((v1).length:Int)+(([v8.1]:List DA).length:Int)<=140737488355328)<|
   some (.inl ((v1++ [v8.1]),(IntKind.i64.wrap (v2+1)),v8.2.bf,v8.2.db,v8.2.bp))
  else
   some (.inl (v1,(IntKind.i64.wrap (v2+1)),v7.2.bf,v7.2.db,v7.2.bp))
 else
  some (.inr (some (v1,(⟨v3,v4,v5⟩:Bx))))
def Qy(a0:Bx):Option (List DA × Bx):=
 Bp (λs:List DA × Int × List Int × Int × Int=>Ue s.1 s.2.1 s.2.2.1 s.2.2.2.1 s.2.2.2.2) ([],0,a0.bf,a0.db,a0.bp)
def L4(a0 v1:List Ah)(v2:Int):Option ((List Ah × Int) ⊕ Option (List Ah)):=
 if(decide (v2<(a0.length:Int)))then
  (getI a0 v2).bind λy3=>
  req (((([]:List Cd).length:Int)+((y3.ak).length:Int))*32<=140737488355328/\(([]:List Cd).length:Int)+((y3.ak).length:Int)<=140737488355328)<|
  req ((((v1).length:Int)+(([y3]:List Ah).length:Int))*40<=140737488355328/\((v1).length:Int)+(([y3]:List Ah).length:Int)<=140737488355328)<|
  some (.inl ((v1++ [y3]),(IntKind.i64.wrap (v2+1))))
 else
  some (.inr (some v1))
def Rm(a0:List Ah):Option (List Ah):=
 Bp (λs:List Ah × Int=>L4 a0 s.1 s.2) ([],0)
def UA(a0:List Ah)(a1:AL)(v1:Int):Option ((Int) ⊕ Option (Int)):=
 if(decide (v1<(a0.length:Int)))then
  (getI a0 v1).bind λy2=>
  if(y2.ae==a1)then
   some (.inr (some v1))
  else
   some (.inl (IntKind.i64.wrap (v1+1)))
 else
  some (.inr (some (-1)))
def Rk(a0:List Ah)(a1:AL):Option (Int):=
 Bp (λs:Int=>UA a0 a1 s) 0
def Q1(a0:List Ah)(a1:AL):Option (Int):=
 (Rk a0 a1).bind λv1=>
 if(decide (v1<0))then
  some 0
 else
  (getI a0 v1).bind λy2=>
  (getI y2.ak (IntKind.i64.wrap ((y2.ak.length:Int)-1))).bind λy3=>
  some y3.ab
def IW(a0 a1 a2:Int):Option (Bool):=
 some ((decide (a0>=a1))&&(decide (a0<=a2)))
def Q2(a0:Int):Option (Bool):=
 (IW a0 1 100000).bind λv1=>
 some v1
def Uk(v1:Int)(v3:Bool):Option ((Int) ⊕ Option (Bool)):=
 if(!v3)then
  some (.inr (some false))
 else
  some (.inl (IntKind.i64.wrap (v1+1)))
def Oz(a1:AL)(v1:Int)(y2:UInt8)(v4:Bool)(v5:Int):Option ((Bool × Int) ⊕ Option ((Int) ⊕ Option (Bool))):=
 if(decide (v5<(a1.length:Int)))then
  if v4 then
   some (.inl (true,(IntKind.i64.wrap (v5+1))))
  else
   (getI a1 v5).bind λy6=>
   some (.inl (((y2.toNat:Int)==(y6.toNat:Int)),(IntKind.i64.wrap (v5+1))))
 else
  some (.inr (Uk v1 v4))
def Ug(a0 a1:AL)(v1:Int):Option ((Int) ⊕ Option (Bool)):=
 if(decide (v1<(a0.length:Int)))then
  (getI a0 v1).bind λy2=>
  Bp (λs:Bool × Int=>Oz a1 v1 y2 s.1 s.2) ((((decide ((y2.toNat:Int)>=97))&&(decide ((y2.toNat:Int)<=122)))||((decide ((y2.toNat:Int)>=48))&&(decide ((y2.toNat:Int)<=57)))),0)
 else
  some (.inr (some true))
def OQ(a0 a1:AL):Option (Bool):=
 Bp (λs:Int=>Ug a0 a1 s) 0
def OY(a0:AL):Option (Bool):=
 (IW (a0.length:Int) 1 12).bind λv1=>
 if v1 then
  (OQ a0 ([46,47]:AL)).bind λv2=>
  some v2
 else
  some false
def Q0(a0:AL):Option (Bool):=
 if(decide ((a0.length:Int)<=24))then
  (OQ a0 ([46,45,44,95]:AL)).bind λv1=>
  some v1
 else
  some false
def ON(a0 a1:AL)(a2:Bool):Option (Bool):=
 (OY a0).bind λv1=>
 if v1 then
  (Q0 a1).bind λv2=>
  some (v2&&((!a2)||(a1==([]:AL))))
 else
  some false
def Ur(a0:Ah):Option (Bool):=
 (OY a0.ae).bind λv1=>
 if v1 then
  (IW (a0.ak.length:Int) 1 16).bind λv2=>
  some v2
 else
  some false
def K7(a0:Ah)(v3:Int):Option ((Int) ⊕ Option (Bool)):=
 if(decide (v3<(a0.ak.length:Int)))then
  (getI a0.ak v3).bind λy4=>
  (Q2 y4.ab).bind λv5=>
  if v5 then
   (ON a0.ae y4.aw y4.aq).bind λv6=>
   if(decide (v3>0))then
    if v6 then
     (getI a0.ak (IntKind.i64.wrap (v3-1))).bind λy7=>
     if(decide (y7.ab>=y4.ab))then
      some (.inr (some false))
     else
      some (.inl (IntKind.i64.wrap (v3+1)))
    else
     some (.inr (some false))
   else
    if((!v6)||false)then
     some (.inr (some false))
    else
     some (.inl (IntKind.i64.wrap (v3+1)))
  else
   some (.inr (some false))
 else
  some (.inr (Ur a0))
def Re(a0:Ah):Option (Bool):=
 Bp (λs:Int=>K7 a0 s) 0
def Uu(a0:List Ah):Option (Bool):=
 some (decide ((a0.length:Int)<=24))
def K8(a0:List Ah)(v1:Int):Option ((Int) ⊕ Option (Bool)):=
 if(decide (v1<(a0.length:Int)))then
  (getI a0 v1).bind λy2=>
  (Re y2).bind λv3=>
  if(decide (v1>0))then
   if v3 then
    (getI a0 (IntKind.i64.wrap (v1-1))).bind λy4=>
    if(!Op.bytesLess y4.ae y2.ae)then
     some (.inr (some false))
    else
     some (.inl (IntKind.i64.wrap (v1+1)))
   else
    some (.inr (some false))
  else
   if((!v3)||false)then
    some (.inr (some false))
   else
    some (.inl (IntKind.i64.wrap (v1+1)))
 else
  some (.inr (Uu a0))
def OH(a0:List Ah):Option (Bool):=
 Bp (λs:Int=>K8 a0 s) 0
def QK(v2:List Ah):Option (List Ah × Bool):=
 (OH v2).bind λv3=>
 some (v2,v3)
def L3(a2 v4:Int)(v5:List Ah)(y6:DA)(v7:Int):Option ((Int × List Ah) ⊕ Option (List Ah × Bool)):=
 if(decide (v7>0))then
  (getI v5 (IntKind.i64.wrap (v7-1))).bind λy8=>
  if(y8.ae==y6.ae)then
   (Q1 v5 y6.ae).bind λv9=>
   if(decide (v9>=a2))then
    some (.inr (some ([],false)))
   else
    req ((((y8.ak).length:Int)+(([(⟨a2,y6.aw,y6.aq⟩:Cd)]:List Cd).length:Int))*32<=140737488355328/\((y8.ak).length:Int)+(([(⟨a2,y6.aw,y6.aq⟩:Cd)]:List Cd).length:Int)<=140737488355328)<|
    some (.inl ((IntKind.i64.wrap (v4+1)),(v5.set ((IntKind.i64.wrap (v7-1))).toNat {y8 with ak:=(y8.ak++ [(⟨a2,y6.aw,y6.aq⟩:Cd)])})))
  else
   req (0<=v7/\v7<=(v5.length:Int)/\(v5.length:Int)<=(v5.length:Int))<|
   req (0<=v7/\v7<=(v5.length:Int)/\(v5.length:Int)<=(v5.length:Int))<|
   req (((([]:List Ah).length:Int)+(((A4 v5 v7 (v5.length:Int))).length:Int))*40<=140737488355328/\(([]:List Ah).length:Int)+(((A4 v5 v7 (v5.length:Int))).length:Int)<=140737488355328)<|
   req (0<=(0:Int)/\(0:Int)<=v7/\v7<=(v5.length:Int))<|
   req (((([]:List Ah).length:Int)+(((A4 v5 0 v7)).length:Int))*40<=140737488355328/\(([]:List Ah).length:Int)+(((A4 v5 0 v7)).length:Int)<=140737488355328)<|
   req (((((A4 v5 0 v7)).length:Int)+(([(⟨y6.ae,[(⟨a2,y6.aw,y6.aq⟩:Cd)]⟩:Ah)]:List Ah).length:Int))*40<=140737488355328/\(((A4 v5 0 v7)).length:Int)+(([(⟨y6.ae,[(⟨a2,y6.aw,y6.aq⟩:Cd)]⟩:Ah)]:List Ah).length:Int)<=140737488355328)<|
   req ((((((A4 v5 0 v7)++ [(⟨y6.ae,[(⟨a2,y6.aw,y6.aq⟩:Cd)]⟩:Ah)])).length:Int)+(((A4 v5 v7 (v5.length:Int))).length:Int))*40<=140737488355328/\((((A4 v5 0 v7)++ [(⟨y6.ae,[(⟨a2,y6.aw,y6.aq⟩:Cd)]⟩:Ah)])).length:Int)+(((A4 v5 v7 (v5.length:Int))).length:Int)<=140737488355328)<|
   some (.inl ((IntKind.i64.wrap (v4+1)),(((A4 v5 0 v7)++ [(⟨y6.ae,[(⟨a2,y6.aw,y6.aq⟩:Cd)]⟩:Ah)])++(A4 v5 v7 (v5.length:Int)))))
 else
  req (0<=v7/\v7<=(v5.length:Int)/\(v5.length:Int)<=(v5.length:Int))<|
  req (0<=v7/\v7<=(v5.length:Int)/\(v5.length:Int)<=(v5.length:Int))<|
  req (((([]:List Ah).length:Int)+(((A4 v5 v7 (v5.length:Int))).length:Int))*40<=140737488355328/\(([]:List Ah).length:Int)+(((A4 v5 v7 (v5.length:Int))).length:Int)<=140737488355328)<|
  req (0<=(0:Int)/\(0:Int)<=v7/\v7<=(v5.length:Int))<|
  req (((([]:List Ah).length:Int)+(((A4 v5 0 v7)).length:Int))*40<=140737488355328/\(([]:List Ah).length:Int)+(((A4 v5 0 v7)).length:Int)<=140737488355328)<|
  req (((((A4 v5 0 v7)).length:Int)+(([(⟨y6.ae,[(⟨a2,y6.aw,y6.aq⟩:Cd)]⟩:Ah)]:List Ah).length:Int))*40<=140737488355328/\(((A4 v5 0 v7)).length:Int)+(([(⟨y6.ae,[(⟨a2,y6.aw,y6.aq⟩:Cd)]⟩:Ah)]:List Ah).length:Int)<=140737488355328)<|
  req ((((((A4 v5 0 v7)++ [(⟨y6.ae,[(⟨a2,y6.aw,y6.aq⟩:Cd)]⟩:Ah)])).length:Int)+(((A4 v5 v7 (v5.length:Int))).length:Int))*40<=140737488355328/\((((A4 v5 0 v7)++ [(⟨y6.ae,[(⟨a2,y6.aw,y6.aq⟩:Cd)]⟩:Ah)])).length:Int)+(((A4 v5 v7 (v5.length:Int))).length:Int)<=140737488355328)<|
  some (.inl ((IntKind.i64.wrap (v4+1)),(((A4 v5 0 v7)++ [(⟨y6.ae,[(⟨a2,y6.aw,y6.aq⟩:Cd)]⟩:Ah)])++(A4 v5 v7 (v5.length:Int)))))
def K4(a2 v4:Int)(v5:List Ah)(y6:DA)(v10:Int):Option ((Int) ⊕ Option ((Int × List Ah) ⊕ Option (List Ah × Bool))):=
 if(decide (v10>0))then
  (getI v5 (IntKind.i64.wrap (v10-1))).bind λy11=>
  if(!(Op.bytesLess y11.ae y6.ae||y11.ae==y6.ae))then
   some (.inl (IntKind.i64.wrap (v10-1)))
  else
   some (.inr (L3 a2 v4 v5 y6 v10))
 else
  some (.inr (L3 a2 v4 v5 y6 v10))
def L1(a1:List DA)(a2 v4:Int)(v5:List Ah):Option ((Int × List Ah) ⊕ Option (List Ah × Bool)):=
 if(decide (v4<(a1.length:Int)))then
  (getI a1 v4).bind λy6=>
  Bp (λs:Int=>K4 a2 v4 v5 y6 s) (v5.length:Int)
 else
  some (.inr (QK v5))
def Q6(a0:List Ah)(a1:List DA)(a2:Int):Option (List Ah × Bool):=
 (Rm a0).bind λv1=>
 Bp (λs:Int × List Ah=>L1 a1 a2 s.1 s.2) (0,v1)
def Ud(v2:List Ah)(v3 v4:Int)(v5:List Int)(v6 v7:Int):Option ((List Ah × Int × Int × List Int × Int × Int) ⊕ Option (List Ah × Bx)):=
 if(decide (v4>0))then
  (H5 (⟨v5,v6,v7⟩:Bx) 4).bind λv8=>
  (Qy v8.2).bind λv9=>
  (Q6 v2 v9.1 (IntKind.i64.wrap (v3+(IntKind.i64.wrap ((1:Int)+v8.1))))).bind λv10=>
  if v10.2 then
   some (.inl (v10.1,(IntKind.i64.wrap (v3+(IntKind.i64.wrap ((1:Int)+v8.1)))),(IntKind.i64.wrap (v4-1)),v9.2.bf,v9.2.db,v9.2.bp))
  else
   some (.inl (v2,(IntKind.i64.wrap (v3+(IntKind.i64.wrap ((1:Int)+v8.1)))),(IntKind.i64.wrap (v4-1)),v9.2.bf,v9.2.db,v9.2.bp))
 else
  some (.inr (some (v2,(⟨v5,v6,v7⟩:Bx))))
def Ow(a0:Bx):Option (List Ah × Bx):=
 (H5 a0 6).bind λv1=>
 Bp (λs:List Ah × Int × Int × List Int × Int × Int=>Ud s.1 s.2.1 s.2.2.1 s.2.2.2.1 s.2.2.2.2.1 s.2.2.2.2.2) ([],0,v1.1,v1.2.bf,v1.2.db,v1.2.bp)
def H4(a0:Bx)(a1:List Int):Option (Int × Bx):=
 (H5 a0 (a1.length:Int)).bind λv1=>
 (getI a1 v1.1).bind λy2=>
 some (y2,v1.2)
def QA(a0:Bx):Option (List Ah × Bx):=
 (Ow a0).bind λv1=>
 if(decide ((v1.1.length:Int)>0))then
  (H5 v1.2 (v1.1.length:Int)).bind λv2=>
  (H5 v2.2 30).bind λv3=>
  if(v3.1==0)then
   (getI v1.1 v2.1).bind λy4=>
   some ((v1.1.set (v2.1).toNat {y4 with ae:=([97]:AL)}),(⟨v3.2.bf,v3.2.db,v3.2.bp⟩:Bx))
  else
   if(v3.1==1)then
    (getI v1.1 v2.1).bind λy5=>
    (H4 v3.2 ([0,100000,100001]:List Int)).bind λv6=>
    (getI y5.ak 0).bind λy7=>
    some ((v1.1.set (v2.1).toNat {y5 with ak:=(y5.ak.set ((0:Int)).toNat {y7 with ab:=v6.1})}),(⟨v6.2.bf,v6.2.db,v6.2.bp⟩:Bx))
   else
    if(v3.1==2)then
     (getI v1.1 v2.1).bind λy8=>
     some ((v1.1.set (v2.1).toNat {y8 with ak:=[]}),(⟨v3.2.bf,v3.2.db,v3.2.bp⟩:Bx))
    else
     some (v1.1,(⟨v3.2.bf,v3.2.db,v3.2.bp⟩:Bx))
 else
  some (v1.1,(⟨v1.2.bf,v1.2.db,v1.2.bp⟩:Bx))
def QS(a0:List Int):Option (List Ah × Int × Int):=
 (Ow (⟨a0,0,0⟩:Bx)).bind λv1=>
 (L0 v1.2 8).bind λv2=>
 if v2.1 then
  (QA v2.2).bind λv3=>
  (H4 (⟨v3.2.bf,v3.2.db,v3.2.bp⟩:Bx) ([0,0,1,5,10,(-1)]:List Int)).bind λv4=>
  (H4 v4.2 ([100000,20,7,v4.1,100001,0]:List Int)).bind λv5=>
  some (v3.1,v4.1,v5.1)
 else
  (H4 (⟨v2.2.bf,v2.2.db,v2.2.bp⟩:Bx) ([0,0,1,5,10,(-1)]:List Int)).bind λv6=>
  (H4 v6.2 ([100000,20,7,v6.1,100001,0]:List Int)).bind λv7=>
  some (v1.1,v6.1,v7.1)
def Mc(a0:List Int)(a1:Int):Option (Int):=
 if(decide (a1<(a0.length:Int)))then
  (getI a0 a1).bind λy1=>
  some (IntKind.i64.wrap y1)
 else
  some (Int.tmod (IntKind.i64.wrap ((IntKind.i64.wrap (a1*7))+(a0.length:Int))) 256)
def K9(a0 a1 a2:Int):Option (Bool):=
 some ((decide (a0>=a1))&&(decide (a0<=a2)))
def Mb(a0:Int):Option (Bool):=
 (K9 a0 1 100000).bind λv1=>
 some v1
def Up(a0:Int):Option (Bool):=
 some (((decide (a0>=97))&&(decide (a0<=122)))||((decide (a0>=48))&&(decide (a0<=57))))
def Un(a0:AL)(a1:Int):Option (Int):=
 (Qz a0 a1).bind λv1=>
 some v1
def Uo(a0 a1:AL)(v1:Int):Option ((Int) ⊕ Option (Bool)):=
 if(decide (v1<(a0.length:Int)))then
  (getI a0 v1).bind λy2=>
  (Up (y2.toNat:Int)).bind λv3=>
  if v3 then
   some (.inl (IntKind.i64.wrap (v1+1)))
  else
   (Un a1 (y2.toNat:Int)).bind λv4=>
   if(decide (v4<0))then
    some (.inr (some false))
   else
    some (.inl (IntKind.i64.wrap (v1+1)))
 else
  some (.inr (some true))
def OL(a0 a1:AL):Option (Bool):=
 Bp (λs:Int=>Uo a0 a1 s) 0
def Q7(a0:AL):Option (Bool):=
 if(decide ((a0.length:Int)<=24))then
  (OL a0 ([46,45,44,95]:AL)).bind λv1=>
  some v1
 else
  some false
def Oy(a0:AL)(a1:Bool):Option (Bool):=
 (Q7 a0).bind λv1=>
 some (v1&&(!(a1&&(a0 !=([]:AL)))))
def Us(a0:Ah):Option (Bool):=
 (K9 (a0.ak.length:Int) 1 16).bind λv1=>
 some v1
def K5(a0:Ah)(v2:Int):Option ((Int) ⊕ Option (Bool)):=
 if(decide (v2<(a0.ak.length:Int)))then
  (getI a0.ak v2).bind λy3=>
  (Mb y3.ab).bind λv4=>
  if v4 then
   (Oy y3.aw y3.aq).bind λv5=>
   if(decide (v2>0))then
    if v5 then
     (getI a0.ak (IntKind.i64.wrap (v2-1))).bind λy6=>
     if(decide (y3.ab<=y6.ab))then
      some (.inr (some false))
     else
      some (.inl (IntKind.i64.wrap (v2+1)))
    else
     some (.inr (some false))
   else
    if((!v5)||false)then
     some (.inr (some false))
    else
     some (.inl (IntKind.i64.wrap (v2+1)))
  else
   some (.inr (some false))
 else
  some (.inr (Us a0))
def Rf(a0:Ah):Option (Bool):=
 Bp (λs:Int=>K5 a0 s) 0
def OO(a0:AL):Option (Bool):=
 (K9 (a0.length:Int) 1 12).bind λv1=>
 if v1 then
  (OL a0 ([46,47]:AL)).bind λv2=>
  some v2
 else
  some false
def Um(a0:List (AL))(v1:Int):Option ((Int) ⊕ Option (Bool)):=
 if(decide (v1<(a0.length:Int)))then
  (getI a0 v1).bind λy2=>
  (OO y2).bind λv3=>
  if(decide (v1>0))then
   if v3 then
    (getI a0 (IntKind.i64.wrap (v1-1))).bind λy4=>
    if(Op.bytesLess y2 y4||y2==y4)then
     some (.inr (some false))
    else
     some (.inl (IntKind.i64.wrap (v1+1)))
   else
    some (.inr (some false))
  else
   if((!v3)||false)then
    some (.inr (some false))
   else
    some (.inl (IntKind.i64.wrap (v1+1)))
 else
  some (.inr (some true))
def QW(a0:List (AL)):Option (Bool):=
 Bp (λs:Int=>Um a0 s) 0
def QE(a0:List Ah)(v1:List (AL)):Option (Bool):=
 if(decide ((a0.length:Int)<=24))then
  (QW v1).bind λv2=>
  some v2
 else
  some false
def Ov(a0:List Ah)(v3:Int)(v4:List (AL)):Option ((Int × List (AL)) ⊕ Option (Bool)):=
 if(decide (v3<(a0.length:Int)))then
  (getI a0 v3).bind λy5=>
  (Rf y5).bind λv6=>
  if(!v6)then
   some (.inr (some false))
  else
   req ((((v4).length:Int)+(([y5.ae]:List (AL)).length:Int))*16<=140737488355328/\((v4).length:Int)+(([y5.ae]:List (AL)).length:Int)<=140737488355328)<|
   some (.inl ((IntKind.i64.wrap (v3+1)),(v4++ [y5.ae])))
 else
  some (.inr (QE a0 v4))
def QV(a0:List Ah):Option (Bool):=
 Bp (λs:Int × List (AL)=>Ov a0 s.1 s.2) (0,[])
def OD(a0:Int):Option (Bool):=
 some (a0 !=a0)
def OG(a0 a1:Int):Option (Int):=
 (OD a0).bind λv1=>
 (OD a1).bind λv2=>
 if v1 then
  if v2 then
   some 0
  else
   some (-1)
 else
  if v2 then
   some 1
  else
   if(decide (a0<a1))then
    some (-1)
   else
    if(decide (a0>a1))then
     some 1
    else
     some 0
def Ou(a0:AL):Option (Bool):=
 some (a0 !=a0)
def QH(a0 a1:AL):Option (Int):=
 (Ou a0).bind λv1=>
 (Ou a1).bind λv2=>
 if v1 then
  if v2 then
   some 0
  else
   some (-1)
 else
  if v2 then
   some 1
  else
   if(Op.bytesLess a0 a1)then
    some (-1)
   else
    if(!(Op.bytesLess a0 a1||a0==a1))then
     some 1
    else
     some 0
def OE(a0:List Int)(v1:Int):Option ((Int) ⊕ Option (Int)):=
 if(decide (v1<(a0.length:Int)))then
  (getI a0 v1).bind λy2=>
  if(y2 !=0)then
   some (.inr (some y2))
  else
   some (.inl (IntKind.i64.wrap (v1+1)))
 else
  some (.inr (some 0))
def Q3(a0:List Int):Option (Int):=
 Bp (λs:Int=>OE a0 s) 0
def QG(a0 a1:Am):Option (Int):=
 (OG a0.ab a1.ab).bind λv1=>
 (OG a0.ah a1.ah).bind λv2=>
 (QH a0.ae a1.ae).bind λv3=>
 (Q3 ([v1,v2,v3]:List Int)).bind λv4=>
 some v4
def Uh(v1:List Am):Option (List Am):=
 (Rj 30 [] v1).bind λv2=>
 some v2.2
def Uj(v3:Int)(v6:List Am):Option ((Int × List Am) ⊕ Option (List Am)):=
 some (.inl ((IntKind.i64.wrap (v3+1)),v6))
def QP(a1 a2:Int)(a3 v3:Int)(y5:Ah)(v7:Int)(v8:List Am):Option ((Int × List Am) ⊕ Option ((Int × List Am) ⊕ Option (List Am))):=
 if(decide (v7<(y5.ak.length:Int)))then
  (getI y5.ak v7).bind λy9=>
  if((decide (y9.ab>a2))&&(decide (y9.ab<=a3)))then
   req ((((v8).length:Int)+(([(⟨y9.ab,a1,y5.ae,y9.aw,y9.aq⟩:Am)]:List Am).length:Int))*56<=140737488355328/\((v8).length:Int)+(([(⟨y9.ab,a1,y5.ae,y9.aw,y9.aq⟩:Am)]:List Am).length:Int)<=140737488355328)<|
   some (.inl ((IntKind.i64.wrap (v7+1)),(v8++ [(⟨y9.ab,a1,y5.ae,y9.aw,y9.aq⟩:Am)])))
  else
   some (.inl ((IntKind.i64.wrap (v7+1)),v8))
 else
  some (.inr (Uj v3 v8))
def QR(a0:MG)(a1 a2:Int)(a3 v3:Int)(v4:List Am):Option ((Int × List Am) ⊕ Option (List Am)):=
 if(decide (v3<(a0.bq.length:Int)))then
  (getI a0.bq v3).bind λy5=>
  Bp (λs:Int × List Am=>QP a1 a2 a3 v3 y5 s.1 s.2) (0,v4)
 else
  some (.inr (Uh v4))
def Rc(a0:MG)(a1 a2 a3:Int):Option (List Am):=
 Bp (λs:Int × List Am=>QR a0 a1 a2 a3 s.1 s.2) (0,[])
def Rg(a0:Int):Option (Bool):=
 (K9 a0 0 100000).bind λv1=>
 some v1
def Ut(a0:List Am):Option (Bool):=
 some (decide ((a0.length:Int)<=400))
def K6(a0:List Am)(v1:Int):Option ((Int) ⊕ Option (Bool)):=
 if(decide (v1<(a0.length:Int)))then
  if(decide (v1>0))then
   (getI a0 (IntKind.i64.wrap (v1-1))).bind λy2=>
   (getI a0 v1).bind λy3=>
   (QG y2 y3).bind λv4=>
   if(decide (v4>=0))then
    some (.inr (some false))
   else
    some (.inl (IntKind.i64.wrap (v1+1)))
  else
   some (.inl (IntKind.i64.wrap (v1+1)))
 else
  some (.inr (Ut a0))
def Q4(a0:List Am):Option (Bool):=
 Bp (λs:Int=>K6 a0 s) 0
def UB(a0:Int):Option (Bool):=
 (K9 a0 0 3).bind λv1=>
 some v1
def QL(a0:Am):Option (Bool):=
 (Mb a0.ab).bind λv1=>
 if v1 then
  (UB a0.ah).bind λv2=>
  if v2 then
   (OO a0.ae).bind λv3=>
   if v3 then
    (Oy a0.aw a0.aq).bind λv4=>
    some v4
   else
    some false
  else
   some false
 else
  some false
def Ui(a0:Am):Option (Bool):=
 (QL a0).bind λv1=>
 some (!v1)
def QJ(a0:List Am):Option (Bool):=
 (Q4 a0).bind λv1=>
 if v1 then
  (Lc a0 (λy0_=>Ui y0_)).bind λv2=>
  some (!v2)
 else
  some false
def Uf(a0:Am)(a1:CM):Option (Bool):=
 some (((a0.ah !=0)||(decide (a0.ab<=a1.ay)))||(decide (a0.ab>a1.cx)))
def K3(a0:CM):Option (Bool):=
 (Rg a0.ay).bind λv1=>
 if v1 then
  (Rg a0.cx).bind λv2=>
  if v2 then
   if(decide (a0.ay<=a0.cx))then
    if(decide ((a0.ax.length:Int)<=60))then
     (QJ a0.ax).bind λv3=>
     if v3 then
      (Lc a0.ax (λy0_=>Uf y0_ a0)).bind λv4=>
      some (!v4)
     else
      some false
    else
     some false
   else
    some false
  else
   some false
 else
  some false
def Ma(a0:CM):Option (CM × Bool):=
 (K3 a0).bind λv1=>
 if(!v1)then
  some ((⟨0,0,[]⟩:CM),false)
 else
  some (a0,true)
def L9(a0:List Ah)(a1 a2:Int):Option (CM × Bool):=
 (QV a0).bind λv1=>
 if(!v1)then
  some ((⟨0,0,[]⟩:CM),false)
 else
  (Rc (⟨0,a0,[],[]⟩:MG) 0 a1 a2).bind λv2=>
  (Ma (⟨a1,a2,v2⟩:CM)).bind λv3=>
  some (v3.1,v3.2)
def L2(a0 a1:Am):Option (Bool):=
 if(a0.ab !=a1.ab)then
  some (decide (a0.ab<a1.ab))
 else
  if(a0.ah !=a1.ah)then
   some (decide (a0.ah<a1.ah))
  else
   some (Op.bytesLess a0.ae a1.ae)
def QT(a0:List Am)(a1:Am)(v1:Int):Option (List Am × Bool):=
 if(decide (v1<(a0.length:Int)))then
  (getI a0 v1).bind λy2=>
  (L2 a1 y2).bind λv3=>
  if(!v3)then
   some (a0,(y2.ab==a1.ab&&(y2.ah==a1.ah&&(y2.ae==a1.ae&&(y2.aw==a1.aw&&(y2.aq==a1.aq))))))
  else
   req (0<=(0:Int)/\(0:Int)<=v1/\v1<=(a0.length:Int))<|
   req (((([]:List Am).length:Int)+(((A4 a0 0 v1)).length:Int))*56<=140737488355328/\(([]:List Am).length:Int)+(((A4 a0 0 v1)).length:Int)<=140737488355328)<|
   req (((((A4 a0 0 v1)).length:Int)+(([a1]:List Am).length:Int))*56<=140737488355328/\(((A4 a0 0 v1)).length:Int)+(([a1]:List Am).length:Int)<=140737488355328)<|
   req (0<=v1/\v1<=(a0.length:Int)/\(a0.length:Int)<=(a0.length:Int))<|
   req ((((((A4 a0 0 v1)++ [a1])).length:Int)+(((A4 a0 v1 (a0.length:Int))).length:Int))*56<=140737488355328/\((((A4 a0 0 v1)++ [a1])).length:Int)+(((A4 a0 v1 (a0.length:Int))).length:Int)<=140737488355328)<|
   some ((((A4 a0 0 v1)++ [a1])++(A4 a0 v1 (a0.length:Int))),true)
 else
  req (0<=(0:Int)/\(0:Int)<=v1/\v1<=(a0.length:Int))<|
  req (((([]:List Am).length:Int)+(((A4 a0 0 v1)).length:Int))*56<=140737488355328/\(([]:List Am).length:Int)+(((A4 a0 0 v1)).length:Int)<=140737488355328)<|
  req (((((A4 a0 0 v1)).length:Int)+(([a1]:List Am).length:Int))*56<=140737488355328/\(((A4 a0 0 v1)).length:Int)+(([a1]:List Am).length:Int)<=140737488355328)<|
  req (0<=v1/\v1<=(a0.length:Int)/\(a0.length:Int)<=(a0.length:Int))<|
  req ((((((A4 a0 0 v1)++ [a1])).length:Int)+(((A4 a0 v1 (a0.length:Int))).length:Int))*56<=140737488355328/\((((A4 a0 0 v1)++ [a1])).length:Int)+(((A4 a0 v1 (a0.length:Int))).length:Int)<=140737488355328)<|
  some ((((A4 a0 0 v1)++ [a1])++(A4 a0 v1 (a0.length:Int))),true)
def OB(a0:List Am)(a1:Am)(v4:Int):Option ((Int) ⊕ Option (List Am × Bool)):=
 if(decide (v4<(a0.length:Int)))then
  (getI a0 v4).bind λy5=>
  (L2 y5 a1).bind λv6=>
  if v6 then
   some (.inl (IntKind.i64.wrap (v4+1)))
  else
   some (.inr (QT a0 a1 v4))
 else
  some (.inr (QT a0 a1 v4))
def OI(a0:List Am)(a1:Am):Option (List Am × Bool):=
 Bp (λs:Int=>OB a0 a1 s) 0
def Uq(v2:Int)(v3:List Am):Option ((List Am × Int) ⊕ Option (List Am)):=
 some (.inl (v3,(IntKind.i64.wrap (v2+1))))
def QM(a0:List Ah)(a1 a2:Int)(a3 v2:Int)(v4:List Am)(v5:Int):Option ((List Am × Int) ⊕ Option ((List Am × Int) ⊕ Option (List Am))):=
 (getI a0 v2).bind λy6=>
 if(decide (v5<(y6.ak.length:Int)))then
  (getI y6.ak v5).bind λy7=>
  if((decide (y7.ab>a2))&&(decide (y7.ab<=a3)))then
   (OI v4 (⟨y7.ab,a1,y6.ae,y7.aw,y7.aq⟩:Am)).bind λv8=>
   some (.inl (v8.1,(IntKind.i64.wrap (v5+1))))
  else
   some (.inl (v4,(IntKind.i64.wrap (v5+1))))
 else
  some (.inr (Uq v2 v4))
def QN(a0:List Ah)(a1 a2 a3:Int)(v1:List Am)(v2:Int):Option ((List Am × Int) ⊕ Option (List Am)):=
 if(decide (v2<(a0.length:Int)))then
  Bp (λs:List Am × Int=>QM a0 a1 a2 a3 v2 s.1 s.2) (v1,0)
 else
  some (.inr (some v1))
def QX(a0:List Ah)(a1 a2 a3:Int):Option (List Am):=
 Bp (λs:List Am × Int=>QN a0 a1 a2 a3 s.1 s.2) ([],0)
def Rb(a0:Am):Option (Bool):=
 (IW a0.ab 1 100000).bind λv1=>
 if v1 then
  (IW a0.ah 0 3).bind λv2=>
  if v2 then
   (ON a0.ae a0.aw a0.aq).bind λv3=>
   some v3
  else
   some false
 else
  some false
def OA(a0:List Am):Option (Bool):=
 some (decide ((a0.length:Int)<=400))
def Gz(a0:List Am)(v1:Int):Option ((Int) ⊕ Option (Bool)):=
 if((decide (v1<(a0.length:Int)))&&(decide (v1<=400)))then
  (getI a0 v1).bind λy2=>
  (Rb y2).bind λv3=>
  if(decide (v1>0))then
   if v3 then
    (getI a0 (IntKind.i64.wrap (v1-1))).bind λy4=>
    (L2 y4 y2).bind λv5=>
    if(!v5)then
     some (.inr (some false))
    else
     some (.inl (IntKind.i64.wrap (v1+1)))
   else
    some (.inr (some false))
  else
   if((!v3)||false)then
    some (.inr (some false))
   else
    some (.inl (IntKind.i64.wrap (v1+1)))
 else
  some (.inr (OA a0))
def Q8(a0:List Am):Option (Bool):=
 Bp (λs:Int=>Gz a0 s) 0
def QO(a0:CM):Option (Bool):=
 (IW a0.ay 0 a0.cx).bind λv1=>
 if v1 then
  if(decide (a0.cx<=100000))then
   if(decide ((a0.ax.length:Int)<=60))then
    (Q8 a0.ax).bind λv2=>
    some v2
   else
    some false
  else
   some false
 else
  some false
def QQ(a0:CM)(v3:Int):Option ((Int) ⊕ Option (Bool)):=
 if(decide (v3<(a0.ax.length:Int)))then
  (getI a0.ax v3).bind λy4=>
  if(y4.ah !=0)then
   some (.inr (some false))
  else
   (IW y4.ab (IntKind.i64.wrap (a0.ay+1)) a0.cx).bind λv5=>
   if(!v5)then
    some (.inr (some false))
   else
    some (.inl (IntKind.i64.wrap (v3+1)))
 else
  some (.inr (QO a0))
def OP(a0:CM):Option (Bool):=
 Bp (λs:Int=>QQ a0 s) 0
def Uz(a0:CM):Option (CM × Bool):=
 (OP a0).bind λv1=>
 if(!v1)then
  some ((⟨0,0,[]⟩:CM),false)
 else
  some (a0,true)
def Q5(a0:List Ah)(a1 a2:Int):Option (CM × Bool):=
 (OH a0).bind λv1=>
 if(!v1)then
  some ((⟨0,0,[]⟩:CM),false)
 else
  (QX a0 0 a1 a2).bind λv2=>
  (Uz (⟨a1,a2,v2⟩:CM)).bind λv3=>
  some (v3.1,v3.2)
def OF(a0 a1:List Am)(v1:Int):Option ((Int) ⊕ Option (Bool)):=
 if(decide (v1<(a0.length:Int)))then
  (getI a0 v1).bind λy2=>
  (getI a1 v1).bind λy3=>
  if(!(y2.ab==y3.ab&&(y2.ah==y3.ah&&(y2.ae==y3.ae&&(y2.aw==y3.aw&&(y2.aq==y3.aq))))))then
   some (.inr (some false))
  else
   some (.inl (IntKind.i64.wrap (v1+1)))
 else
  some (.inr (some true))
def Rh(a0 a1:List Am):Option (Bool):=
 if((a0.length:Int) !=(a1.length:Int))then
  some false
 else
  Bp (λs:Int=>OF a0 a1 s) 0
def OX(a0 a1:CM):Option (Bool):=
 if(a0.ay==a1.ay)then
  if(a0.cx==a1.cx)then
   (Rh a0.ax a1.ax).bind λv1=>
   some v1
  else
   some false
 else
  some false
def H2(a0:List (List Am))(v3:Int)(v4:List Am):Option ((Int × List Am) ⊕ Option (List Am)):=
 if(decide (v3<(a0.length:Int)))then
  (getI a0 v3).bind λy5=>
  req ((((v4).length:Int)+((y5).length:Int))*56<=140737488355328/\((v4).length:Int)+((y5).length:Int)<=140737488355328)<|
  some (.inl ((IntKind.i64.wrap (v3+1)),(v4++y5)))
 else
  some (.inr (some v4))
def Uc(a0:List (List Am))(v1:Int):Option (List Am):=
 (Sb ([]:List Am) v1).bind λv2=>
 Bp (λs:Int × List Am=>H2 a0 s.1 s.2) (0,v2)
def H3(a0:List (List Am))(v6 v7:Int):Option ((Int × Int) ⊕ Option (List Am)):=
 if(decide (v7<(a0.length:Int)))then
  (getI a0 v7).bind λy8=>
  if(decide ((IntKind.i64.wrap (v6+(y8.length:Int)))<0))then
   none
  else
   some (.inl ((IntKind.i64.wrap (v6+(y8.length:Int))),(IntKind.i64.wrap (v7+1))))
 else
  some (.inr (Uc a0 v6))
def QB(a0:List (List Am)):Option (List Am):=
 Bp (λs:Int × Int=>H3 a0 s.1 s.2) (0,0)
def QU(a0 a1:CM):Option (CM × Bool):=
 (K3 a0).bind λv1=>
 if v1 then
  (K3 a1).bind λv2=>
  if((!v2)||(a0.cx !=a1.ay))then
   some ((⟨0,0,[]⟩:CM),false)
  else
   (QB ([a0.ax,a1.ax]:List (List Am))).bind λv3=>
   (Ma (⟨a0.ay,a1.cx,v3⟩:CM)).bind λv4=>
   some (v4.1,v4.2)
 else
  some ((⟨0,0,[]⟩:CM),false)
def QC(a0:List Int):Option (Bool):=
 (UH a0).bind λv1=>
 if v1 then
  some true
 else
  (QS a0).bind λv2=>
  (Mc a0 40).bind λv3=>
  (Mc a0 40).bind λv4=>
  (Mc a0 41).bind λv5=>
  (L9 v2.1 v2.2.1 (IntKind.i64.wrap (v2.2.1+(Int.tmod v3 9)))).bind λv6=>
  (L9 v2.1 (IntKind.i64.wrap (v2.2.1+(Int.tmod v3 9))) (IntKind.i64.wrap ((IntKind.i64.wrap (v2.2.1+(Int.tmod v4 9)))+(Int.tmod v5 20)))).bind λv7=>
  (L9 v2.1 v2.2.1 (IntKind.i64.wrap ((IntKind.i64.wrap (v2.2.1+(Int.tmod v4 9)))+(Int.tmod v5 20)))).bind λv8=>
  (Q5 v2.1 v2.2.1 (IntKind.i64.wrap ((IntKind.i64.wrap (v2.2.1+(Int.tmod v4 9)))+(Int.tmod v5 20)))).bind λv9=>
  if(v8.2 !=v9.2)then
   some false
  else
   (OX v8.1 v9.1).bind λv10=>
   if(!v10)then
    some false
   else
    if(((!v6.2)||(!v7.2))||(!v8.2))then
     some ((!v8.2)||(v6.2&&v7.2))
    else
     (QU v6.1 v7.1).bind λv11=>
     if v11.2 then
      (OX v11.1 v8.1).bind λv12=>
      some v12
     else
      some false
def eK:FS:=Om 90 [.v .s, .v (.i .u8)] (.v (.i .i64)) (λx=>Qz x.1 x.2.1) λx r _ h=>eJ x.1 x.2.1 r h
def eH:FS:=Om 29 [.v (.l (.st 0)), .fn [.st 0, .st 0] (.i .i64)] (.tu (.cons (.tu .nil) (.cons (.v (.l (.st 0))) .nil))) (λx=>Rj x.2.1.g x.2.1.caps x.1) λx r hp h=>gE h
def eF:FS:=Om 38 [.v (.l (.st 0)), .v (.i .i64)] (.v (.l (.st 0))) (λx=>Sb x.1 x.2.1) λx r hp h=>oJ (t:=28) (it:=3) (el:=55) (K:=5) (by kernel_rfl) (λ_=>by kernel_rfl) gZ h
def iP:FS:=A6 4 [.v (.l (.i .u8))] (.v .b) (λx=>UH x.1) [] []
def eQ:FS:=A6 39 [.rf (.st 1)] (.tu (.cons (.v (.i .i64)) (.cons (.v (.st 1)) .nil))) (λx=>Ot x.1) [] [.inl]
def Ox:FS:=A6 24 [.rf (.st 1), .v (.i .i64)] (.tu (.cons (.v (.i .i64)) (.cons (.v (.st 1)) .nil))) (λx=>H5 x.1 x.2.1) [eQ] [.inl]
def Ul:FS:=A6 12 [.rf (.st 1), .v (.i .i64)] (.tu (.cons (.v .b) (.cons (.v (.st 1)) .nil))) (λx=>L0 x.1 x.2.1) [Ox] []
def fB:FS:=A6 82 [.rf (.st 1), .v (.l .s)] (.tu (.cons (.v .s) (.cons (.v (.st 1)) .nil))) (λx=>QD x.1 x.2.1) [Ox] []
def eP:FS:=A6 63 [.rf (.st 1)] (.tu (.cons (.v .s) (.cons (.v (.st 1)) .nil))) (λx=>QF x.1) [fB] []
def eU:FS:=A6 42 [.rf (.st 1), .v .s] (.tu (.cons (.v (.st 2)) (.cons (.v (.st 1)) .nil))) (λx=>QI x.1 x.2.1) [Ul,eP] []
def eM:FS:=A6 26 [.rf (.st 1)] (.tu (.cons (.v (.l (.st 2))) (.cons (.v (.st 1)) .nil))) (λx=>Qy x.1) [Ul,eU] [.sp [.l (.st 2), .i .i64, .l (.i .u8), .i .i64, .i .u64], .inl]
def gG:FS:=A6 40 [.v (.l (.st 4))] (.v (.l (.st 4))) (λx=>Rm x.1) [] [.sp [.l (.st 4), .i .i64]]
def iQ:FS:=A6 62 [.v (.l (.st 4)), .v .s] (.v (.i .i64)) (λx=>Rk x.1 x.2.1) [] [.sp [.i .i64]]
def fY:FS:=A6 41 [.v (.l (.st 4)), .v .s] (.v (.i .i64)) (λx=>Q1 x.1 x.2.1) [iQ] []
def OT:FS:=A6 55 [.v (.i .i64), .v (.i .i64), .v (.i .i64)] (.v .b) (λx=>IW x.1 x.2.1 x.2.2.1) [] []
def hP:FS:=A6 52 [.v (.i .i64)] (.v .b) (λx=>Q2 x.1) [OT] []
def Xz:FS:=A6 79 [.v .s, .v .s] (.v .b) (λx=>OQ x.1 x.2.1) [] [.sp [.i .i64], .sp [.b, .i .i64]]
def XT:FS:=A6 54 [.v .s] (.v .b) (λx=>OY x.1) [OT,Xz] []
def iK:FS:=A6 78 [.v .s] (.v .b) (λx=>Q0 x.1) [Xz] []
def Xx:FS:=A6 53 [.v .s, .v .s, .v .b] (.v .b) (λx=>ON x.1 x.2.1 x.2.2.1) [XT,iK] []
def fZ:FS:=A6 31 [.v (.st 4)] (.v .b) (λx=>Re x.1) [XT,OT,hP,Xx] [.sp [.i .i64]]
def XH:FS:=A6 18 [.v (.l (.st 4))] (.v .b) (λx=>OH x.1) [fZ] [.sp [.i .i64]]
def iV:FS:=A6 25 [.v (.l (.st 4)), .v (.l (.st 2)), .v (.i .i64)] (.tu (.cons (.v (.l (.st 4))) (.cons (.v .b) .nil))) (λx=>Q6 x.1 x.2.1 x.2.2.1) [gG,XH,fY] [.sp [.i .i64, .l (.st 4)], .inl, .sp [.i .i64]]
def Xo:FS:=A6 11 [.rf (.st 1)] (.tu (.cons (.v (.l (.st 4))) (.cons (.v (.st 1)) .nil))) (λx=>Ow x.1) [Ox,eM,iV] [.sp [.l (.st 4), .i .i64, .i .i64, .l (.i .u8), .i .i64, .i .u64], .inl]
def Xp:FS:=A6 14 [.rf (.st 1), .v (.l (.i .i64))] (.tu (.cons (.v (.i .i64)) (.cons (.v (.st 1)) .nil))) (λx=>H4 x.1 x.2.1) [Ox] []
def eN:FS:=A6 13 [.rf (.st 1)] (.tu (.cons (.v (.l (.st 4))) (.cons (.v (.st 1)) .nil))) (λx=>QA x.1) [Xo,Ox,Xp] [.inl]
def fJ:FS:=A6 5 [.v (.l (.i .u8))] (.tu (.cons (.v (.l (.st 4))) (.cons (.v (.i .i64)) (.cons (.v (.i .i64)) .nil)))) (λx=>QS x.1) [Xo,Ul,eN,Xp] [.inl]
def kK:FS:=A6 6 [.v (.l (.i .u8)), .v (.i .i64)] (.v (.i .i64)) (λx=>Mc x.1 x.2.1) [] []
def OJ:FS:=A6 45 [.v (.i .i64), .v (.i .i64), .v (.i .i64)] (.v .b) (λx=>K9 x.1 x.2.1 x.2.2.1) [] []
def XE:FS:=A6 43 [.v (.i .i64)] (.v .b) (λx=>Mb x.1) [OJ] []
def eT:FS:=A6 83 [.v (.i .u8)] (.v .b) (λx=>Up x.1) [] []
def eS:FS:=A6 84 [.v .s, .v (.i .u8)] (.v (.i .i64)) (λx=>Un x.1 x.2.1) [eK] []
def Xq:FS:=A6 65 [.v .s, .v .s] (.v .b) (λx=>OL x.1 x.2.1) [eT,eS] [.sp [.i .i64]]
def fL:FS:=A6 64 [.v .s] (.v .b) (λx=>Q7 x.1) [Xq] []
def XB:FS:=A6 44 [.v .s, .v .b] (.v .b) (λx=>Oy x.1 x.2.1) [fL] []
def hY:FS:=A6 27 [.v (.st 4)] (.v .b) (λx=>Rf x.1) [OJ,XE,XB] [.sp [.i .i64]]
def Xy:FS:=A6 46 [.v .s] (.v .b) (λx=>OO x.1) [OJ,Xq] []
def fG:FS:=A6 28 [.v (.l .s)] (.v .b) (λx=>QW x.1) [Xy] [.sp [.i .i64]]
def fE:FS:=A6 15 [.v (.l (.st 4))] (.v .b) (λx=>QV x.1) [fG,hY] [.sp [.i .i64, .l .s]]
def fF:FS:=A6 76 [.v (.i .i64)] (.v .b) (λx=>OD x.1) [] []
def fA:FS:=A6 50 [.v (.i .i64), .v (.i .i64)] (.v (.i .i64)) (λx=>OG x.1 x.2.1) [fF] []
def eO:FS:=A6 77 [.v .s] (.v .b) (λx=>Ou x.1) [] []
def eL:FS:=A6 51 [.v .s, .v .s] (.v (.i .i64)) (λx=>QH x.1 x.2.1) [eO] []
def gQ:FS:=A6 49 [.v (.l (.i .i64))] (.v (.i .i64)) (λx=>Q3 x.1) [] [.sp [.i .i64]]
def Xn:FS:=A6 30 [.v (.st 0), .v (.st 0)] (.v (.i .i64)) (λx=>QG x.1 x.2.1) [fA,eL,gQ] []
def eR:FS:=T7 Xn λ_=>by kernel_rfl
def fV:FS:=A6 17 [.v (.st 7), .v (.i .i64), .v (.i .i64), .v (.i .i64)] (.v (.l (.st 0))) (λx=>Rc x.1 x.2.1 x.2.2.1 x.2.2.2.1) [eH,eR] [.sp [.i .i64, .l (.st 0)], .sp [.i .i64, .l (.st 0)], .inl]
def iB:FS:=A6 34 [.v (.i .i64)] (.v .b) (λx=>Rg x.1) [OJ] []
def gS:FS:=A6 58 [.v (.l (.st 0))] (.v .b) (λx=>Q4 x.1) [Xn] [.sp [.i .i64]]
def eG:FS:=Om 61 [.v (.l (.st 0)), .fn [.st 0] .b] (.v (.i .i64)) (λx=>OU x.1 (λy=>x.2.1.φ (y,()))) λx r hp h=>V6 (f:=61) (t:=Wn 5) (by kernel_rfl) (by kernel_rfl) (oW (av:=(BY Dj.av (.st 0))) (cn:=5) (λ_=>⟨_,rfl,rfl⟩) h (λy b hb=>hp.2.1 (y,()) b hb))
def Xl:FS:=Om 36 [.v (.l (.st 0)), .fn [.st 0] .b] (.v .b) (λx=>Lc x.1 (λy=>x.2.1.φ (y,()))) λx r hp h=>V6 (f:=36) (t:=Wb 61) (by kernel_rfl) (by kernel_rfl) (o9 h λr hr=>eG.ok x r hp hr)
def fP:FS:=A6 81 [.v (.i .i64)] (.v .b) (λx=>UB x.1) [OJ] []
def fC:FS:=A6 60 [.v (.st 0)] (.v .b) (λx=>QL x.1) [XE,fP,Xy,XB] []
def eV:FS:=A6 59 [.v (.st 0)] (.v .b) (λx=>Ui x.1) [fC] []
def eW:FS:=T7 eV λ_=>by kernel_rfl
def fD:FS:=A6 35 [.v (.l (.st 0))] (.v .b) (λx=>QJ x.1) [gS,Xl,eW] []
def eY:FS:=A6 37 [.v (.st 0), .rf (.st 8)] (.v .b) (λx=>Uf x.1 x.2.1) [] []
def eX:FS:=T7 eY λ_=>by kernel_rfl
def Xr:FS:=A6 22 [.v (.st 8)] (.v .b) (λx=>K3 x.1) [iB,fD,Xl,eX] []
def XI:FS:=A6 16 [.v (.st 8)] (.tu (.cons (.v (.st 8)) (.cons (.v .b) .nil))) (λx=>Ma x.1) [Xr] []
def gP:FS:=A6 7 [.v (.l (.st 4)), .v (.i .i64), .v (.i .i64)] (.tu (.cons (.v (.st 8)) (.cons (.v .b) .nil))) (λx=>L9 x.1 x.2.1 x.2.2.1) [fE,fV,XI] []
def XA:FS:=A6 57 [.v (.st 0), .v (.st 0)] (.v .b) (λx=>L2 x.1 x.2.1) [] []
def gB:FS:=A6 33 [.v (.l (.st 0)), .v (.st 0)] (.tu (.cons (.v (.l (.st 0))) (.cons (.v .b) .nil))) (λx=>OI x.1 x.2.1) [XA] [.sp [.i .i64]]
def iO:FS:=A6 20 [.v (.l (.st 4)), .v (.i .i64), .v (.i .i64), .v (.i .i64)] (.v (.l (.st 0))) (λx=>QX x.1 x.2.1 x.2.2.1 x.2.2.2.1) [gB] [.sp [.l (.st 0), .i .i64], .sp [.l (.st 0), .i .i64], .inl]
def fT:FS:=A6 80 [.v (.st 0)] (.v .b) (λx=>Rb x.1) [OT,Xx] []
def fS:FS:=A6 56 [.v (.l (.st 0))] (.v .b) (λx=>Q8 x.1) [fT,XA] [.sp [.i .i64]]
def fX:FS:=A6 32 [.v (.st 8)] (.v .b) (λx=>OP x.1) [OT,fS] [.sp [.i .i64]]
def gI:FS:=A6 19 [.v (.st 8)] (.tu (.cons (.v (.st 8)) (.cons (.v .b) .nil))) (λx=>Uz x.1) [fX] []
def gN:FS:=A6 8 [.v (.l (.st 4)), .v (.i .i64), .v (.i .i64)] (.tu (.cons (.v (.st 8)) (.cons (.v .b) .nil))) (λx=>Q5 x.1 x.2.1 x.2.2.1) [XH,iO,gI] []
def iC:FS:=A6 21 [.v (.l (.st 0)), .v (.l (.st 0))] (.v .b) (λx=>Rh x.1 x.2.1) [] [.sp [.i .i64]]
def gU:FS:=A6 9 [.v (.st 8), .v (.st 8)] (.v .b) (λx=>OX x.1 x.2.1) [iC] []
def eI:FS:=A6 23 [.v (.l (.l (.st 0)))] (.v (.l (.st 0))) (λx=>QB x.1) [eF] [.sp [.i .i64, .i .i64], .sp [.i .i64, .l (.st 0)]]
def fK:FS:=A6 10 [.v (.st 8), .v (.st 8)] (.tu (.cons (.v (.st 8)) (.cons (.v .b) .nil))) (λx=>QU x.1 x.2.1) [Xr,eI,XI] []
def Xm:FS:=A6 3 [.v (.l (.i .u8))] (.v .b) (λx=>QC x.1) [iP,fJ,kK,gP,gN,gU,fK] []
theorem eZ(a0:List Int)(r:Bool)(h:QC a0=some r):CI Try.prog CH 3 [.sl (a0.map PY)] (.bool r):=Xm.ok (a0,()) r (by simp[Xm,A6,GM,PX]) h
theorem nP{α β:Type}(f:α->β)(l:List α)(o:List β):l.foldl (λo x=>o++ [f x]) o=o++l.map f:=by
 induction l generalizing o with
 |nil=>simp
 |cons x l ih=>rw[List.foldl_cons,ih];simp
theorem qF{n:Nat}{body:Int->Option (Int ⊕ Option Bool)}(hs:∀i:Nat,i<n->body i=some (.inl ((i+1:Nat):Int)))(he:body n=some (.inr (some true))):Bp body 0=some true:=by have h:=Vk (n:=n) (body:=body) (λ_=>true) false (some true) (λi hi=>by rw[hs i hi,if_pos rfl]) he;rw[h,if_pos (by simp)]
abbrev BG:=AL
def Ci(a b c:Int):Bool:=decide (a>=b)&&decide (a<=c)
theorem FJ{a b c:Int}:Ci a b c=true↔b<=a/\a<=c:=by simp[Ci]
@[simp] theorem Lt(a b c:Int):IW a b c=some (Ci a b c):=rfl
@[simp] theorem Mr(a b c:Int):K9 a b c=some (Ci a b c):=rfl
def HI(b:UInt8):Bool:=(decide ((b.toNat:Int)>=97)&&decide ((b.toNat:Int)<=122))||(decide ((b.toNat:Int)>=48)&&decide ((b.toNat:Int)<=57))
def Mx(s more:BG):Bool:=s.all λb=>HI b||more.contains b
theorem pV{a b:UInt8}:((a.toNat:Int)==(b.toNat:Int))=(a==b):=by
 rw[Bool.eq_iff_iff];simp only[AA];constructor
 ·intro h;exact UInt8.toNat_inj.1 (by omega)
 ·rintro rfl;rfl
theorem YG{α:Type}(xs:List α)(p:α->Bool)(q:Nat->Bool)(h:∀(i:Nat) (hi:i<xs.length),q i=p xs[i]):(List.range xs.length).all q=xs.all p:=by
 rw[Bool.eq_iff_iff];simp only[Bz,List.mem_range];constructor
 ·intro hq x hx;obtain⟨i,hi,rfl⟩:=List.getElem_of_mem hx;rw[<-h i hi];exact hq i hi
 ·intro hp i hi;rw[h i hi];exact hp _ (Bh hi)
theorem Vw{α β:Type}{xs:List α}{body:Int->Option (Int ⊕ Option β)}(p:α->Bool)(b:β)(fin:Option β)
  (hs:∀(i:Nat) (hi:i<xs.length),body i=some (if p xs[i]=true then .inl ((i+1:Nat):Int)else .inr (some b))) (he:body xs.length=some (.inr fin)):Bp body 0=if xs.all p=true then fin else some b:=by
 rw[Vk (n:=xs.length) (λi=>match xs[i]? with|some x=>p x|none=>true) b fin (λi hi=>by rw[hs i hi];simp[hi]) he,
  YG xs p _ λi hi=>by simp[hi]]
theorem YL{s more:BG}(h1:s.length<=2000000)(h2:more.length<=2000000):OQ s more=some (Mx s more):=by
 unfold OQ;rw[Vw (xs:=s) (λb=>HI b||more.contains b) false (some true) ?_ (by simp[Ug])]
 ·unfold Mx;cases(s.all λb=>HI b||more.contains b)<;>rfl
 ·intro i hi;have Cm:Bp (λt:Bool × Int=>Oz more i s[i] t.1 t.2) (HI s[i],0)=some (if(HI s[i]||more.contains s[i])=true then .inl ((i+1:Nat):Int)else .inr (some false)):=by
   have hl:=YE (xs:=more) (body:=λt:Bool × Int=>Oz more i s[i] t.1 t.2) (λk (ok:Bool)=>(ok,k)) (λb ok=>some (.inl (ok||s[i]==b))) (λok=>Uk i ok)
    (λk hk ok=>by simp only[Oz,Int.ofNat_lt,hk,decide_true,if_true,B6 hk,Af,EK hk (by omega:more.length<=_),pV,LC];cases ok<;>simp) (λok=>by simp[Oz]) (HI s[i])
   rw[nQ (λok b=>ok||s[i]==b) (λ_=>True) (λ_ _ _ _=>trivial) (λ_ _ _ _=>rfl) trivial]at hl;have hf:∀(l:BG) (ok:Bool),l.foldl (λok b=>ok||s[i]==b) ok=(ok||l.contains s[i]):=by
    intro l
    induction l with
    |nil=>intro ok;simp
    |cons c l ih=>intro ok;rw[List.foldl_cons,ih,List.contains_cons,Bool.or_assoc]
   rw[hl,hf];unfold Uk;rw[EK hi (by omega)];cases(HI s[i]||more.contains s[i])<;>rfl
  simp only[Ug,Int.ofNat_lt,hi,decide_true,if_true,B6 hi,Af];exact Cm
theorem gY(l:BG)(c:UInt8):decide (Lib.indexByte l c<0)= !l.contains c:=by
 induction l with
 |nil=>rfl
 |cons b l ih=>
  unfold Lib.indexByte;have Qb:=Lib.indexByte_ge l c;rw[List.contains_cons];by_cases hb:b=c
  ·subst hb;simp
  ·have h1:(b==c)=false:=by simpa using hb
   have h2:(c==b)=false:=by simpa using λh=>hb h.symm
   rw[h1,h2];simp only[B1,if_false,Bool.false_or];rw[<-ih];by_cases hm:Lib.indexByte l c= -1
   ·simp[hm]
   ·have h3:(Lib.indexByte l c== -1)=false:=by simpa using hm
    rw[h3];simp only[B1,if_false];rw[decide_eq_decide];omega
theorem Ym{s more:BG}(h1:s.length<=2000000):OL s more=some (Mx s more):=by
 unfold OL;rw[Vw (xs:=s) (λb=>HI b||more.contains b) false (some true) ?_ (by simp[Uo])]
 ·unfold Mx;cases(s.all λb=>HI b||more.contains b)<;>rfl
 ·intro i hi;have hu:((s[i].toNat:Int)).toNat.toUInt8=s[i]:=by simp
  simp only[Uo,Int.ofNat_lt,hi,decide_true,if_true,B6 hi,Af,Up,Un,Qz,hu,gY,EK hi (by omega:s.length<=_)];rw[show((decide ((s[i].toNat:Int)>=97)&&decide ((s[i].toNat:Int)<=122))||(decide ((s[i].toNat:Int)>=48)&&decide ((s[i].toNat:Int)<=57)))=HI s[i]from rfl];cases HI s[i]<;>cases more.contains s[i]<;>rfl
def Ed(s:BG):Bool:=Ci s.length 1 12&&Mx s [46,47]
def Lq(s:BG):Bool:=decide ((s.length:Int)<=24)&&Mx s [46,45,44,95]
theorem ZV{s:BG}(h:s.length<=2000000):OY s=some (Ed s):=by simp only[OY,Lt,Af,YL h (more:=[46,47]) (by decide),Ed];cases Ci s.length 1 12<;>simp
theorem aA{s:BG}(h:s.length<=2000000):OO s=some (Ed s):=by simp only[OO,Mr,Af,Ym h,Ed];cases Ci s.length 1 12<;>simp
theorem qD{s:BG}(h:s.length<=2000000):Q0 s=some (Lq s):=by simp only[Q0,Af,YL h (more:=[46,45,44,95]) (by decide),Lq];by_cases hl:(s.length:Int)<=24<;>simp[hl]
theorem qH{s:BG}(h:s.length<=2000000):Q7 s=some (Lq s):=by simp only[Q7,Af,Ym h,Lq];by_cases hl:(s.length:Int)<=24<;>simp[hl]
def GJ(v:BG)(FQ:Bool):Bool:=Lq v&&(!FQ||v==[])
theorem Vg{v:BG}{FQ:Bool}(h:v.length<=2000000):Oy v FQ=some (GJ v FQ):=by simp only[Oy,qH h,Af,GJ,bne];cases Lq v<;>cases FQ<;>cases(v==[])<;>rfl
theorem VC{k v:BG}{FQ:Bool}(hk:k.length<=2000000)(hv:v.length<=2000000):ON k v FQ=some (Ed k&&GJ v FQ):=by simp only[ON,ZV hk,qD hv,Af,GJ];cases Ed k<;>simp
def Lj(ks:List BG)(i:Nat):Bool:=i==0||Op.bytesLess ((ks[i-1]?).getD []) ((ks[i]?).getD [])
def Sf(ks:List BG):Bool:=(List.range ks.length).all (Lj ks)
theorem Pc:∀(a b:BG),(Op.bytesLess a b||a==b)= !Op.bytesLess b a
 | [],[]=>rfl
 | [],_::_=>rfl
 |_::_,[]=>rfl
 |x::a,y::b=>by
  have ih:=Pc a b;simp only[Op.bytesLess];rcases Nat.lt_trichotomy x.toNat y.toNat with h|h|h
  ·have h1:x<y:=UInt8.lt_iff_toNat_lt.2 h;have h2: ¬y<x:=λh'=>by have:=UInt8.lt_iff_toNat_lt.1 h';omega
   have h3: ¬y=x:=λh'=>by subst h';omega
   simp[h1,h2,h3]
  ·have h0:x=y:=UInt8.toNat_inj.1 h;subst h0;have h1: ¬x<x:=λh'=>by have:=UInt8.lt_iff_toNat_lt.1 h';omega
   rw[show((x::a)==(x::b))=(a==b) by simp];simp only[h1,decide_false,Bool.false_or,beq_self_eq_true,Bool.true_and];exact ih
  ·have h1: ¬x<y:=λh'=>by have:=UInt8.lt_iff_toNat_lt.1 h';omega
   have h2:y<x:=UInt8.lt_iff_toNat_lt.2 h;have h3: ¬x=y:=λh'=>by subst h';omega
   simp[h1,h2,h3]
theorem Lo{i:Nat}(h0:0<i)(h:i<=2000000):IntKind.i64.wrap ((i:Int)-1)=((i-1:Nat):Int):=by rw[D1 (by omega) (by omega)];omega
theorem oV{α:Type}(xs:List α)(p:α->Bool)(q r:Nat->Bool)(h:∀(i:Nat) (hi:i<xs.length),r i=(p xs[i]&&q i)):(List.range xs.length).all r=(xs.all p&&(List.range xs.length).all q):=by
 rw[<-YG xs p (λi=>match xs[i]? with|some x=>p x|none=>true) λi hi=>by simp[hi]];rw[Bool.eq_iff_iff];simp only[Ad,Bz,List.mem_range];constructor
 ·intro hr;exact⟨λi hi=>by have:=hr i hi;rw[h i hi,Ad]at this;simpa[hi]using this.1,λi hi=>by have:=hr i hi;rw[h i hi,Ad]at this;exact this.2⟩
 ·rintro⟨h1,h2⟩ i hi;rw[h i hi,Ad];exact⟨by have:=h1 i hi;simpa[hi]using this,h2 i hi⟩
theorem iG{ks:List BG}(h:ks.length<=2000000)(hk:∀k∈ks,k.length<=2000000):QW ks=some (ks.all Ed&&Sf ks):=by
 unfold QW Sf;rw[Vk (n:=ks.length) (λi=>Ed ((ks[i]?).getD [])&&Lj ks i) false (some true) ?_ (by simp[Um]),oV ks Ed (Lj ks) _ λi hi=>by simp[hi]]
 ·cases(ks.all Ed&&(List.range ks.length).all (Lj ks))<;>rfl
 ·intro i hi;simp only[Um,Int.ofNat_lt,hi,decide_true,if_true,B6 hi,Af,aA (hk _ (Bh hi)),EK hi (by omega:ks.length<=_),CS hi,CT,Lj];by_cases h0:i=0
  ·subst h0;cases Ed ks[0]<;>simp
  ·have hp:(i:Int)>0:=by omega
   have WZ:i-1<ks.length:=by omega
   have hb:(i==0)=false:=by simpa using h0
   simp only[hp,decide_true,if_true,Lo (Nat.pos_of_ne_zero h0) (by omega:i<=2000000),B6 WZ,Af,Pc,CS WZ,CT,hb,Bool.false_or];cases Ed ks[i]<;>cases Op.bytesLess ks[i-1] ks[i]<;>rfl
def C4{α:Type}(r:α->α->Bool):List α->Bool
 | []=>true
 | [_]=>true
 |x::y::l=>r x y&&C4 r (y::l)
theorem Lf{α:Type}{r:α->α->Bool}(ht:∀a b c,r a b=true->r b c=true->r a c=true):∀{l:List α},C4 r l=true↔l.Pairwise λa b=>r a b=true
 | []=>by simp[C4]
 | [_]=>by simp[C4]
 |x::y::l=>by
  rw[C4,Ad,Lf ht];constructor
  ·rintro⟨h1,h2⟩;refine List.pairwise_cons.2 ⟨λz hz=> ?_,h2⟩;rcases Ac.1 hz with rfl|hz
   ·exact h1
   ·exact ht _ _ _ h1 ((List.pairwise_cons.1 h2).1 z hz)
  ·intro h;have h:=List.pairwise_cons.1 h;exact⟨h.1 y (by simp),h.2⟩
theorem X9{α:Type}{r:α->α->Bool}{l:List α}{q:Nat}(h:q+1<l.length):C4 r (l.drop q)=(r l[q] l[q+1]&&C4 r (l.drop (q+1))):=by rw[A7 (show q<l.length by omega),A7 h,C4]
theorem Mo{α β:Type}{xs:List α}{body:Int->Option (Int ⊕ Option β)}(p:α->Bool)(r:α->α->Bool)(b:β)(fin:Option β)
  (h0:∀h:0<xs.length,body 0=some (if p xs[0]=true then .inl 1 else .inr (some b)))
  (hs:∀i (h:i+1<xs.length),body ((i+1:Nat):Int)=some (if(p xs[i+1]&&r xs[i] xs[i+1])=true then .inl ((i+2:Nat):Int)else .inr (some b)))
  (he:body xs.length=some (.inr fin)):Bp body 0=if(xs.all p&&C4 r xs)=true then fin else some b:=by
 have key:∀n q,q+1+n=xs.length->Bp body ((q+1:Nat):Int)=if((xs.drop (q+1)).all p&&C4 r (xs.drop q))=true then fin else some b:=by
  intro n
  induction n with
  |zero=>
   intro q hq;rw[show((q+1:Nat):Int)=(xs.length:Int) by omega,Ec,he];have e1:xs.drop (q+1)=[]:=List.drop_eq_nil_of_le (by omega);have e2:xs.drop q=[xs[q]]:=by rw[A7 (by omega),e1]
   rw[e1,e2];simp[C4]
  |succ n ih=>
   intro q hq;rw[Ec,hs q (by omega),X9 (by omega),A7 (show q+1<xs.length by omega),List.all_cons];have ih:=ih (q+1) (by omega);by_cases hp:(p xs[q+1]&&r xs[q] xs[q+1])=true
   ·rw[if_pos hp];simp only[Ad]at hp;simp only[hp.1,hp.2,Bool.true_and];rw[<-A7 (show q+1<xs.length by omega)];exact ih
   ·rw[if_neg hp];rw[if_neg];intro h;simp only[Ad]at h hp;exact hp ⟨h.1.1,h.2.1⟩
 by_cases hz:0<xs.length
 ·rw[Ec,h0 hz];have:=key (xs.length-1) 0 (by omega);rw[List.drop_zero]at this;have e:xs=xs[0]::xs.drop 1:=by rw[<-A7 hz,List.drop_zero]
  by_cases hp:p xs[0]=true
  ·rw[if_pos hp];show Bp body ((0+1:Nat):Int)=_;rw[this];have:xs.all p=(xs.drop 1).all p:=by rw[e,List.all_cons,hp,Bool.true_and];simp
   rw[this]
  ·rw[if_neg hp,if_neg];intro h;simp only[Ad,Bz]at h;exact hp (h.1 _ (Bh hz))
 ·have:xs=[]:=by cases xs with|nil=>rfl|cons=>simp at hz
  subst this;rw[Ec,show(0:Int)=(([]:List α).length:Int)from rfl,he];simp[C4]
def Bq{α:Type}(lt:α->Bool)(l:List α):Nat:=(l.takeWhile lt).length
theorem Pm{α:Type}(lt:α->Bool):∀l:List α,Bq lt l<=l.length
 | []=>by simp[Bq]
 |x::l=>by have:=Pm lt l;unfold Bq at this ⊢;rw[List.takeWhile_cons];split<;>simp<;>omega
theorem Pu{α:Type}{lt:α->Bool}:∀{l:List α} {i:Nat} (h:i<Bq lt l),lt (l[i]'(Nat.lt_of_lt_of_le h (Pm lt l)))=true
 |x::l,i,h=>by
  unfold Bq at h;rw[List.takeWhile_cons]at h;split at h
  ·rename_i hx;cases i with
   |zero=>exact hx
   |succ i=>exact Pu (l:=l) (i:=i) (by unfold Bq;simpa using h)
  ·simp at h
theorem RZ{α:Type}{lt:α->Bool}:∀{l:List α} (h:Bq lt l<l.length),lt l[Bq lt l]=false
 |x::l,h=>by
  by_cases hx:lt x=true
  ·have e:Bq lt (x::l)=Bq lt l+1:=by unfold Bq;rw[List.takeWhile_cons,if_pos hx];rfl
   have:=RZ (l:=l) (lt:=lt) (by rw[e]at h;simpa using h);simp only[e,List.getElem_cons_succ];exact this
  ·have e:Bq lt (x::l)=0:=by unfold Bq;rw[List.takeWhile_cons,if_neg hx];rfl
   simp only[e,List.getElem_cons_zero];simpa using hx
theorem VG{α:Type}{key:α->AL}{x:α}:∀{l:List α},EM key l->Gi key x l=(match l[Bq (λy=>bl (key y) (key x)) l]? with
  |some y=>if key y=key x then l.set (Bq (λy=>bl (key y) (key x)) l) x else l.take (Bq (λy=>bl (key y) (key x)) l)++ [x]++l.drop (Bq (λy=>bl (key y) (key x)) l)
  |none=>l.take (Bq (λy=>bl (key y) (key x)) l)++ [x]++l.drop (Bq (λy=>bl (key y) (key x)) l))
 | [],_=>by simp[Gi,Bq]
 |y::l,h=>by
  have h1:=List.pairwise_cons.1 h;unfold Gi;by_cases hb:bl (key x) (key y)=true
  ·have e:Bq (λz=>bl (key z) (key x)) (y::l)=0:=by unfold Bq;rw[List.takeWhile_cons,if_neg (by rw[RJ hb];simp)];rfl
   rw[if_pos hb,e];simp[(Ij hb).symm]
  ·rw[if_neg hb];by_cases hk:key x=key y
   ·have e:Bq (λz=>bl (key z) (key x)) (y::l)=0:=by unfold Bq;rw[List.takeWhile_cons,if_neg (by rw[hk,HE];simp)];rfl
    rw[if_pos hk,e];simp[hk]
   ·have FF:=Vh (by simpa using hb) hk;have e:Bq (λz=>bl (key z) (key x)) (y::l)=Bq (λz=>bl (key z) (key x)) l+1:=by unfold Bq;rw[List.takeWhile_cons,if_pos FF];rfl
    rw[if_neg hk,e,VG h1.2];simp only[List.getElem?_cons_succ];split
    ·split<;>simp
    ·simp
def Wu(a b:BG):Int:=if bl a b=true then-1 else if a=b then 0 else 1
@[simp] theorem oF(a:BG):Ou a=some false:=by simp[Ou]
@[simp] theorem o5(a:Int):OD a=some false:=by simp[OD]
@[simp] theorem qW(a b:BG):QH a b=some (Wu a b):=by
 unfold QH Wu;simp only[oF,Af,B1,if_false];by_cases h:bl a b=true
 ·have:Op.bytesLess a b=true:=h;simp[this]
 ·have h1:Op.bytesLess a b=false:=by simpa using h
  by_cases he:a=b
  ·subst he;simp[h1]
  ·simp[h1,he]
def Wx(a b:Int):Int:=if a<b then-1 else if a=b then 0 else 1
@[simp] theorem qK(a b:Int):OG a b=some (Wx a b):=by
 unfold OG Wx;simp only[o5,Af,B1,if_false];by_cases h:a<b
 ·simp[h]
 ·by_cases he:a=b
  ·subst he;simp
  ·have:b<a:=by omega
   simp[h,he,this]
theorem Se{i:Nat}(h:i<=2000000):IntKind.i64.wrap ((i:Int)+1)=((i+1:Nat):Int):=by rw[D1 (by omega) (by omega)];simp
theorem jC(ks:List BG):Sf ks=C4 bl ks:=by
 have key:∀n q,q+n+1=ks.length->(List.range' (q+1) n).all (Lj ks)=C4 bl (ks.drop q):=by
  intro n
  induction n with
  |zero=>intro q hq;rw[A7 (show q<ks.length by omega),List.drop_eq_nil_of_le (show ks.length<=q+1 by omega)];rfl
  |succ n ih=>intro q hq;rw[List.range'_succ,List.all_cons,ih (q+1) (by omega),X9 (show q+1<ks.length by omega)];congr 1;unfold Lj;have hb:(q+1==0)=false:=rfl;rw[hb,Bool.false_or,Nat.add_sub_cancel,CS (show q<ks.length by omega),CS (show q+1<ks.length by omega)];rfl
 cases ks with
 |nil=>rfl
 |cons k l=>unfold Sf;rw[AQ,List.range_eq_range',List.range'_succ,List.all_cons];have:=key l.length 0 (by simp);rw[List.drop_zero]at this;rw[Nat.zero_add]at this;rw[show 0+1=1 from rfl,this];rfl
end Go.Proofs.Yteeafhlnofapaaa
end

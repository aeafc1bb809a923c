/- Parts of a proof, joined: DA, DB, MA, MB, OB, OG, QA, QO, MC, MD, QT, TF, HB, SP, HL, IA, IC, ID, IE, IF, IG, IB, SB, SE, SX, NA, PK, SJ. -/
import Derived.Test.YtkpifpljpoochaaGreatDoorK6
import Derived.Test.YtkpifpljpoochaaGreatDoorProg
import Derived.Test.YtkpifpljpoochaaGreatDoorChecked
import Derived.Shelf.Strings.Builder1
import Derived.Shelf.Strings.Builder2
import Derived.Shelf.Strings.OnBuilder
import Derived.Shelf.Small.Bits
import Derived.Shelf.Small.Strs
import Derived.Shelf.Small.Wraps
import Derived.Shelf.Strings.BuilderF
import Derived.Shelf.Strings.BuilderK
import Derived.Shelf.Utf8.RuneCount
import Derived.Shelf.Strings.Builder2Cap
import Derived.Shelf.Strconv.Itoa0
import Derived.Shelf.Strings.Search1
import Derived.Shelf.Strings.Search2
import Derived.Shelf.Strings.Search3
import Derived.Shelf.Strings.Cut
import Derived.Shelf.Strings.Count
import Derived.Shelf.LaysM
import Derived.Shelf.Strings.Shaped
import Derived.Shelf.Strings.Prefix
import Derived.Shelf.Strings.Split
import Derived.Shelf.Strings.SplitShaped
import Derived.Shelf.Unicode.Decode
import Derived.Shelf.Strings.RuneCount
import Derived.Shelf.Strings.Explode
import Derived.Shelf.Unicode.DecodeSlow
import Derived.Shelf.Unicode.DecodeAny
import Derived.Shelf.Strings.BuilderCap
import Derived.Shelf.Slices.Turned
import Derived.Ground.Names2Prog
import Derived.Shelf.Slices.Clone
import Derived.Ground.SlgnProg
import Derived.Shelf.SlicesE.Clone
import Derived.Laws.CopyRow
import Derived.Lib.AppendZerosOnto
import Derived.Lib.Overlaps
import Derived.Lib.SliceRun
import Derived.Lib.SlicesDelete
import Derived.Shelf.RegionOpenPlain
import Derived.Deep.RegionLaw
import Derived.Shelf.GgSortFunc.InsertionK
import Derived.StillTailTactics
import Derived.Deep.QuietTactic
import Derived.Sort.Grow
import Derived.Shelf.SlGeneric
import Derived.Shelf.SlLaysF0
import Derived.Ground.SlsfProg
import Derived.Shelf.SlSortCmp.NoneTotal
set_option linter.unusedVariables false
set_option linter.unusedSimpArgs false
section
namespace Go.Proofs.YtkpifpljpoochaaGreatDoor
open Go.RowKit
noncomputable def cE(t:TypeId):List Bool:=(A5 Tryz.prog t).map λu=>match Da Tryz.prog u with|some e=>B1 Tryz.prog e|none=>false
noncomputable def nU(u:TypeId):List Bool:=if u=53 then []else cE u
noncomputable def zzM(fn:Func):FF:={cf:=fn.params.toList.map λt=>match JO Tryz.prog t with|some u=> .bx (nU u) (nU u)|none=> .ro,res:=fn.resultTypes.toList.flatMap cE}
noncomputable def zyY(f:Nat):Option FF:=
 match f with
 |4=>some {cf:=[],res:=[]}
 |7=>some {cf:=[],res:=[]}
 |16=>some {cf:=[.bx [] [], .ro, .ro],res:=[]}
 |17=>some {cf:=[.bx [] []],res:=[]}
 |29=>some {cf:=[.va [true], .ro],res:=[true],wn:=true,sh:=true,pv:=true,lo:=[false,true]}
 |30=>some {cf:=[.ro, .ro],res:=[true],sh:=true}
 |32=>some {cf:=[.mu [true], .ro],res:=[],pv:=true,lo:=[false,true]}
 |46=>some {cf:=[.bx [] [], .ro, .ro],res:=[]}
 |52=>some {cf:=[.ro, .ro, .ro],res:=[]}
 |56=>some {cf:=[.mu [true], .ro],res:=[]}
 |67=>some {cf:=[.ro, .ro],res:=[false],lo:=[false,true]}
 |69=>some {cf:=[.mu [true], .ro, .ro],res:=[],pv:=true,lo:=[false,false,true]}
 |74=>some {cf:=[.ro, .ro],res:=[true],dp:=true}
 |84=>some {cf:=[.bx [] [], .ro, .ro],res:=[]}
 |97=>some {cf:=[.mu [true], .ro, .ro, .ro, .ro],res:=[]}
 |107=>some {cf:=[.ro, .ro],res:=[]}
 |110=>some {cf:=[.mu [true], .ro, .ro, .ro],res:=[],pv:=true,lo:=[false,false,false,true]}
 |111=>some {cf:=[.mu [true], .ro, .ro, .ro, .ro],res:=[],pv:=true,lo:=[false,false,false,false,true]}
 |123=>some {cf:=[.mu [true], .ro, .ro, .ro],res:=[]}
 |124=>some {cf:=[.mu [true], .ro, .ro, .ro],res:=[]}
 |125=>some {cf:=[.mu [true], .ro, .ro, .ro],res:=[]}
 |126=>some {cf:=[.mu [true], .ro, .ro, .ro],res:=[]}
 |127=>some {cf:=[.mu [true], .ro, .ro, .ro],res:=[]}
 |128=>some {cf:=[.mu [true], .ro, .ro, .ro],res:=[]}
 |129=>some {cf:=[.mu [true], .ro, .ro, .ro, .ro],res:=[]}
 |130=>some {cf:=[.mu [true], .ro, .ro, .ro, .ro],res:=[]}
 |138=>some {cf:=[.ro, .ro, .ro, .ro],res:=[]}
 |142=>some {cf:=[.mu [true], .ro, .ro, .ro, .ro],res:=[],pv:=true,lo:=[false,false,false,false,true]}
 |143=>some {cf:=[.va [true], .ro],res:=[true],wn:=true}
 |149=>some {cf:=[.mu [true], .ro, .ro, .ro, .ro],res:=[]}
 |152=>some {cf:=[.mu [true], .ro, .bx [false] [false], .ro],res:=[]}
 |153=>some {cf:=[.mu [true], .ro, .ro, .ro, .bx [false] [false], .ro],res:=[]}
 |162=>some {cf:=[.mu [true], .ro, .ro, .ro, .ro],res:=[],pv:=true,lo:=[false,false,false,false,true]}
 |166=>some {cf:=[.mu [true], .ro, .ro, .bx [false] [false], .ro],res:=[]}
 |_=>none
noncomputable def oH(f:Nat):Option FF:=match Tryz.prog.funcs[f]? with
 |some fn=>some ((zyY f).getD (zzM fn))
 |none=>none
noncomputable def CF:BR:={f:=oH}
theorem zzj:Tryz.prog.follows .mixedOrders=true:=by kernel_rfl
theorem sL:Tryz.prog.funcs.size<1000000:=by
 have:(decide (Tryz.prog.funcs.size<1000000))=true:=by kernel_rfl
 exact of_decide_eq_true this
theorem Sp(f:Nat)(s:FF)(h:CF f=some s):f<1000000:=by
 simp only[CF]at h;unfold oH at h;split at h
 ·rename_i fn hf;have:=(Array.getElem?_eq_some_iff.1 hf).1;exact Nat.lt_trans this sL
 ·cases h
def VX(P:Program)(sg:BR)(f:Nat)(xs:List AV)(r:AV):Bool:=
 match P.funcs[f]?,sg f with
 |some fn,some s=> !(fn.name== "runtime.NumGoroutine")&&Nl P fn s r&&xs.length==fn.params.size+fn.nfree
 |_,_=>false
abbrev Den(t:Tr)(r:AV)(xs:List AV):Prop:=t.den (Cw Tryz.prog CF) (λr'=>r'=r) (λ_ _ _ _=>False) [] xs
theorem JF{f:Nat}{t:Tr}{xs:List AV}{r:AV}(hc:SL Tryz.prog CF f=some t)(hk:VX Tryz.prog CF f xs r=true)(hd:Den t r xs):Cw Tryz.prog CF f xs r:=by
 unfold VX at hk;split at hk
 ·rename_i fn s hf hs;simp only[Ae,Bt,Ax]at hk;unfold Cw;rw[if_pos (Sp f s hs)];exact⟨s,hs,zwi zzj Sp hf hs hk.1.1 hc hk.1.2 hk.2 hd⟩
 ·cases hk
section
variable {Rt:Nat->List AV->AV->Prop} {R:AV->Prop} {L:LK} {js:List JK} {ρ:List AV}
theorem ZX{i:EL}{b k:Tr}(hL:Je L)(I:Nat->List AV->Prop){m:Nat}(h0:I m (i.den ρ))(FV:∀m vs,I m vs->b.den Rt R L ((λus=> ∃m',m'<m/\I m' us)::(λus=>k.den Rt R L js (ρ++us))::js) (ρ++vs)):(Tr.loop i b k).den Rt R L js ρ:=by
 have hb:∀W W':JK,(∀vs,W vs->W' vs)-> ∀vs,b.den Rt R L (W::(λus=>k.den Rt R L js (ρ++us))::js) (ρ++vs)->b.den Rt R L (W'::(λus=>k.den Rt R L js (ρ++us))::js) (ρ++vs):=
  λW W' hW vs hv=>b.fc hL hv (.cons hW (DU.refl _))
 have mono:∀n vs,Ia (λW vs=>b.den Rt R L (W::(λus=>k.den Rt R L js (ρ++us))::js) (ρ++vs)) n vs-> ∀n',n<=n'->Ia (λW vs=>b.den Rt R L (W::(λus=>k.den Rt R L js (ρ++us))::js) (ρ++vs)) n' vs:=by
  intro n
  induction n with
  |zero=>intro vs h;exact h.elim
  |succ n ih=>
   intro vs h n' hn;cases n' with
   |zero=>omega
   |succ n'=>exact hb _ _ (λus hu=>ih us hu n' (by omega)) vs h
 have key:∀m vs,I m vs->Ia (λW vs=>b.den Rt R L (W::(λus=>k.den Rt R L js (ρ++us))::js) (ρ++vs)) (m+1) vs:=by
  intro m
  induction m using Nat.strongRecOn with
  |_ m ih=>intro vs hI;exact hb _ _ (λus ⟨m',hm,hu⟩=>mono _ _ (ih m' hm us hu) m (by omega)) vs (FV m vs hI)
 exact⟨m+1,key m _ h0⟩
theorem UZ:Je (λ_ _ _ _=>False):=λ_ _ _ _ _ _ h=>h
end
@[simp] theorem zz5(ρ:List AV):Bc ρ []↔True:=⟨λ_=>trivial,λ_=>Et ρ⟩
@[simp] theorem zzQ(ρ:List AV)(x:E)(b:Bool)(gs:Gd):Bc ρ ((x,b)::gs)↔x.den ρ= .bool b/\Bc ρ gs:=
 ⟨λh=>⟨h (x,b) (by simp),λg hg=>h g (by simp[hg])⟩,λh g hg=>by rcases Ad.1 hg with rfl|hg;exact h.1;exact h.2 g hg⟩
attribute [simp] E.den EL.den Cn.den AV.fld AV.proj AV.deref AV.len AV.slen AV.idx AV.nth AV.dz AV.gz AV.conv AV.bin AV.bbin AV.sbin AV.app AV.cr AV.rep
@[simp] theorem zyq(cs:List AV):(AV.agg cs).cells=cs:=rfl
@[simp] theorem zy8(k:IntKind)(n:Int):(AV.int k n).cells=[.int k n]:=rfl
@[simp] theorem zym(b:Bool):(AV.bool b).cells=[.bool b]:=rfl
@[simp] theorem zys(s:List UInt8):(AV.str s).cells=[.str s]:=rfl
@[simp] theorem zzn(xs:List AV):(AV.sl xs).cells=[.sl xs]:=rfl
@[simp] theorem zyo(k:IntKind)(n:Int):(AV.int k n).scalar=true:=rfl
@[simp] theorem zx6(b:Bool):(AV.bool b).scalar=true:=rfl
@[simp] theorem zyk(s:List UInt8):(AV.str s).scalar=true:=rfl
@[simp] theorem zzG(b c d:Bool):AV.cond (.bool b) (.bool c) (.bool d)= .bool (bif b then c else d):=by cases b<;>rfl
theorem xZ{y:AV}(h:y.scalar=true):y.cells=[y]:=by cases y<;>first|rfl|simp[AV.scalar]at h
theorem Ch{n:Int}(h1: -9223372036854775808<=n)(h2:n<=9223372036854775807):IntKind.i64.wrap n=n:=by rw[IntKind.wrap_i64];omega
end Go.Proofs.YtkpifpljpoochaaGreatDoor
end
section
namespace Go.Proofs.YtkpifpljpoochaaGreatDoor
open Go.RowKit
section
variable {Rt:Nat->List AV->AV->Prop} {R:AV->Prop} {L:LK} {js:List JK} {ρ:List AV}
theorem Ce{gs:Gd}{c:Cn}{k:Tr}(h:Bc ρ gs->c.den ρ)(hk:k.den Rt R L js ρ):(Tr.bg gs c k).den Rt R L js ρ:=⟨h,hk⟩
theorem RX{gs:Gd}{f:Nat}{args:EL}{k:Tr}{r:AV}(h:Bc ρ gs->Rt f (args.den ρ) r)(hk:k.den Rt R L js (ρ++ [r])):(Tr.call gs (.inl f) args k).den Rt R L js ρ:=⟨r,h,hk⟩
theorem Vi{gs:Gd}{x:E}{args:EL}{k:Tr}{r:AV}(h:Bc ρ gs-> ∃g caps,x.den ρ= .fn g caps/\Rt (1000000+g) (args.den ρ++caps) r/\ ∀y∈r.cells,y.scalar=true)(hk:k.den Rt R L js (ρ++ [r])):(Tr.call gs (.inr x) args k).den Rt R L js ρ:=⟨r,h,hk⟩
theorem EE{c:E}{a b:Tr}{t:Bool}(h:c.den ρ= .bool t)(ha:t=true->a.den Rt R L js ρ)(hb:t=false->b.den Rt R L js ρ):(Tr.ite c a b).den Rt R L js ρ:=⟨t,h,ha,hb⟩
theorem I8{r:E}(h:R (r.den ρ)):(Tr.ret r).den Rt R L js ρ:=h
theorem LD{es:EL}{j:JK}(h:j (es.den ρ)):(Tr.jmp 0 es).den Rt R L (j::js) ρ:=h
theorem Vp{es:EL}{i j:JK}(h:j (es.den ρ)):(Tr.jmp 1 es).den Rt R L (i::j::js) ρ:=h
end
def mL(cn:Nat)(xs:List AV):Prop:= ∀x∈xs,∃cs,x= .agg cs/\cs.length=cn
theorem mL.at{cn:Nat}{xs:List AV}(h:mL cn xs){q:Nat}(hq:q<xs.length):∃cs,xs[q]= .agg cs/\cs.length=cn:=h _ (Bu hq)
section
variable {Rt:Nat->List AV->AV->Prop} {R:AV->Prop} {L:LK} {js:List JK} {ρ:List AV} {α β σ τ:Type}
theorem zxS{x:E}{sz:Nat}{xs:List α}(f:α->AV)(hx:x.den ρ= .sl (xs.map f))(hf:∀y,(f y).cells.length=sz/\ ∀z∈(f y).cells,z.scalar=true):Cn.den ρ (.flatS x sz):=⟨_,hx,by simp only[List.mem_map];rintro _ ⟨y,_,rfl⟩;exact hf y⟩
end
@[simp] def PQ(n:Int):AV:= .int .u8 n
@[simp] def Jh(x:List UInt8):AV:= .str x
attribute [simp] BD Px AV.sidx AV.aeq AV.leq AV.seq AV.sk AV.cx AV.bytes AV.text
end Go.Proofs.YtkpifpljpoochaaGreatDoor
end
section
namespace Go.Proofs.YtkpifpljpoochaaGreatDoor
open Go.RowKit
section
variable {P:Program} {w:World}
theorem Dr.gu{ts:List TypeId}{vs:List Value}{xs:List AV}{rf lf hs:List Nat}(h:Dr P w ts [] [] vs xs rf lf hs):∀(ms:List PM) (lo:List Bool),(∀m∈ms,m= .ro)->Dr P w ts ms lo vs xs rf lf hs:=by
 generalize hm:([]:List PM)=m0 at h;generalize hn:([]:List Bool)=n0 at h
 induction h with
 |nil=>intro ms lo _;exact .nil
 |lent h1 _ _ _ _=>subst hn;cases h1
 | @cons t ts ms' lo' v vs x xs f h rf lf hs A6 _ ih=>
  subst hm;subst hn;intro ms lo Eg;refine .cons ?_ (ih rfl rfl ms.tail lo.tail λm hm=>Eg m (List.mem_of_mem_tail hm));have:ms.headD .ro= .ro:=by cases ms with|nil=>rfl|cons m ms=>exact Eg m (by simp)
  rw[this];exact A6
 |free h1 _ ih=>subst hm;subst hn;intro ms lo Eg;exact .free h1 (ih rfl rfl ms.tail lo.tail λm hm=>Eg m (List.mem_of_mem_tail hm))
theorem DA.gu{ts:List TypeId}{ms:List PM}{vs:List Value}{Bs:List AV}{f o:List Nat}(h:DA P w ts ms vs Bs f o)(Eg:∀m∈ms,m= .ro):DA P w ts [] vs Bs f o:=by
 have hd:∀{ms:List PM},(∀m∈ms,m= .ro)->ms.headD .ro= .ro:=by intro ms h;cases ms with|nil=>rfl|cons m ms=>exact h m (by simp)
 induction h with
 |nil=>exact .nil
 |ro _ _ ih=>exact .ro rfl (ih λm hm=>Eg m (List.mem_of_mem_tail hm))
 |va h9 _ _=>rw[hd Eg]at h9;cases h9
 |mu h9 _ _ _ _=>rw[hd Eg]at h9;cases h9
 |bx h9 _ _ _ _ _ _ _ _=>rw[hd Eg]at h9;cases h9
end
noncomputable def aS(f:Nat)(r:AV):Bool:=
 match Tryz.prog.funcs[f]?,CF f with
 |some fn,some s=>s.cf.all (λm=>match m with| .ro=>true|_=>false)&&(s.ft.isEmpty&&(!s.sh&& !s.pv))&&(match(DE fn s)with| [t]=> !HM Tryz.prog t s.res|_=>false)&&Nl Tryz.prog fn {cf:=[],res:=[]} r
 |_,_=>false
theorem zt5{f:Nat}{xs:List AV}{r:AV}(h:Cw Tryz.prog CF f xs r)(hp:aS f r=true):Cw Tryz.prog CF (1000000+f) xs r:=by
 unfold aS at hp;split at hp
 ·rename_i fn s hf hs;simp only[Ae,A0]at hp;obtain⟨⟨⟨h1,EN⟩,h2⟩,h3⟩:=hp;obtain⟨EN,Xq,Jm⟩:s.ft=[]/\s.sh=false/\s.pv=false:=by simpa using EN
  have Dx:Ew fn s=Ew fn {cf:=[],res:=[]}:=by unfold Ew;rw[Jm]
  have GZ:DE fn s=fn.resultTypes.toList:=by simp[DE,Xq]
  have Xn:DE fn {cf:=[],res:=[]}=fn.resultTypes.toList:=rfl;rw[GZ]at h2;have Kc:∀m∈s.cf,m= .ro:=λm hm=>by
   have:=h1 m hm;split at this
   ·rfl
   ·cases this
  unfold Cw at h ⊢;rw[if_pos (Sp f s hs)]at h;rw[if_neg (by omega),Nat.add_sub_cancel_left];obtain⟨s',Bd,fn',Qn,hb,hn,_,hl,_,hc⟩:=h;rw[hs]at Bd;cases Bd;rw[hf]at Qn;cases Qn;rw[EN,Dx]at hc;refine⟨fn,hf,hb,hn,h3,hl,by simp,λw vs rf lf Bd Au hd Wu B8 Ez=>(hc w vs rf lf Bd (Au.gu _ _ Kc) hd Wu B8 Ez).mono ?_⟩;rintro e w' ⟨v,rfl,⟨R,Bs,f1,o1,f2,o2,e1,e2,e3,e4,e5,e6⟩,hm⟩;rw[EN,Dx]at e3;refine⟨v,rfl,⟨R,Bs,f1,o1,f2,o2,e1,?_,e3.gu Kc,e4,e5,e6⟩,hm⟩;rw[GZ]at e2;rw[Xn];unfold JP at e2 ⊢;split at h2
  ·rename_i t ht;rw[ht]at e2 ⊢;simp only at e2 ⊢;unfold F0 at e2 ⊢;have h2:HM Tryz.prog t s.res=false:=by simpa using h2
   rw[if_neg (by rw[h2];simp)]at e2;rw[if_neg (by simp[HM])];exact e2
  ·cases h2
 ·cases hp
section
variable {Rt:Nat->List AV->AV->Prop} {R:AV->Prop} {L:LK} {js:List JK} {ρ:List AV}
theorem kS{i:EL}{b k:Tr}(hL:Je L)(n:Nat)(st:Nat->List AV)(J:Nat->Prop)(hJ:J 0)(h0:i.den ρ=st 0)(hb:∀q,q<=n->J q-> ∀W:JK,(q<n->J (q+1)->W (st (q+1)))->b.den Rt R L (W::(λus=>k.den Rt R L js (ρ++us))::js) (ρ++st q)):(Tr.loop i b k).den Rt R L js ρ:=by refine ZX hL (λm vs=> ∃q,q+m=n/\vs=st q/\J q) (m:=n) ⟨0,by omega,h0,hJ⟩ ?_;rintro m vs ⟨q,hq,rfl,hj⟩;exact hb q (by omega) hj _ λAI IB=>⟨m-1,by omega,q+1,by omega,rfl,IB⟩
end
def Sy(cn:Nat):Tr:=
 .bg [] (.dfd (.len (.var 0)))<|
 .loop (.cons (.int .i64 (0)) .nil) (
  .bg [] (.dfd (.bin .lss (.var 2) (.len (.var 0))))<|
  .ite (.bin .lss (.var 2) (.len (.var 0))) (
  .bg [] (.inb (.var 2) (.var 0) cn)<|
  .call [] (.inr (.var 1)) (.cons (.fld (.idx (.var 0) (.var 2)) 0 cn true) .nil)<|
  .ite (.var 3) (
   .ret (.var 2)) (
   .bg [] (.dfd (.bin .add (.var 2) (.int .i64 (1))))<|
   .jmp 0 (.cons (.bin .add (.var 2) (.int .i64 (1))) .nil))) (
  .jmp 1 .nil)) (
  .ret (.int .i64 (-1)))
def bC:Tr:=
 .bg [] (.dfd (.len (.var 0)))<|
 .loop (.cons (.int .i64 (0)) .nil) (
  .bg [] (.dfd (.bin .lss (.var 2) (.len (.var 0))))<|
  .ite (.bin .lss (.var 2) (.len (.var 0))) (
  .bg [] (.inb (.var 2) (.var 0) 1)<|
  .call [] (.inr (.var 1)) (.cons (.fld (.idx (.var 0) (.var 2)) 0 1 false) .nil)<|
  .ite (.var 3) (
   .ret (.var 2)) (
   .bg [] (.dfd (.bin .add (.var 2) (.int .i64 (1))))<|
   .jmp 0 (.cons (.bin .add (.var 2) (.int .i64 (1))) .nil))) (
  .jmp 1 .nil)) (
  .ret (.int .i64 (-1)))
def DR{α:Type}(p:α->Option Bool):List α->Int->Option Int
 | [],_=>some (-1)
 |x::xs,i=>(p x).bind λb=>if b=true then some i else DR p xs (i+1)
noncomputable def E8{α:Type}(xs:List α)(p:α->Option Bool):Option Int:=req (xs.length<=9223372036854775806) (DR p xs 0)
noncomputable def IY{α:Type}(xs:List α)(p:α->Option Bool):Option Bool:=(E8 xs p).bind λi=>some (decide (i>=0))
noncomputable def aD{α:Type}(bytes:Nat)(xs:List α):Option (List α):=req ((xs.length:Int)*bytes<=140737488355328/\(xs.length:Int)<=140737488355328) (some xs)
theorem jQ{α:Type}{p:α->Option Bool}{l:List α}{r:Int}{q:Nat}(hq:q<l.length)(h:DR p (l.drop q) q=some r):∃b,p l[q]=some b/\(b=true->r=q)/\(b=false->DR p (l.drop (q+1)) ((q+1:Nat):Int)=some r):=by
 rw[BL hq]at h;obtain⟨b,hb,h⟩:=JJ h;refine⟨b,hb,?_,?_⟩
 ·rintro rfl;simpa using h.symm
 ·rintro rfl;simpa using h
theorem aE{α:Type}{av:α->AV}{l:List α}{p:α->Option Bool}{cn g:Nat}{caps:List AV}{r:Int}(hs:∀x,∃cs,av x= .agg cs/\cs.length=cn)(h:E8 l p=some r)(hf:∀x b,p x=some b->Cw Tryz.prog CF (1000000+g) (av x::caps) (.bool b)):Den (Sy cn) (.int .i64 r) [.sl (l.map av), .fn g caps]:=by
 obtain⟨hn,h⟩:=GL h;unfold Den Sy;refine Ce (by simp) ?_;refine kS UZ l.length (λq=> [.int .i64 q]) (λq=>DR p (l.drop q) q=some r) (by simpa using h) (by simp) λq hq hJ W hW=> ?_;by_cases AI:q<l.length
 ·obtain⟨cs,hc,hl⟩:=hs l[q];obtain⟨b,hb,Ho,F2⟩:=jQ AI hJ;refine Ce (by simp[BD]) (EE (t:=true) (by simp[BD,AI]) (λ_=> ?_) (by simp));refine Ce (λ_=>⟨.i64,q,l.length,by simp,by omega,by simp,by omega,by simp[AI,hc,hl]⟩) (Vi (r:= .bool b) (λ_=>⟨g,caps,by simp,?_,by simp⟩) ?_)
  ·have:=hf l[q] b hb;rw[hc]at this;simpa[AI,hc,<-hl]using this
  ·cases b with
   |true=>exact EE (t:=true) (by simp) (λ_=>I8 (by simp[Ho rfl])) (by simp)
   |false=>refine EE (t:=false) (by simp) (by simp) λ_=>Ce (by simp[BD]) (LD ?_);have:=hW AI (F2 rfl);simpa[BD,Ch (n:=(q:Int)+1) (by omega) (by omega)]using this
 ·have HX:q=l.length:=by omega
  subst HX;have hr:r= -1:=by simpa[DR]using hJ.symm
  refine Ce (by simp[BD]) (EE (t:=false) (by simp[BD]) (by simp) λ_=>Vp ?_);exact I8 (by simp[hr])
theorem zwx{α:Type}{av:α->AV}{l:List α}{p:α->Option Bool}{g:Nat}{caps:List AV}{r:Int}(hs:∀x,(av x).cells=[av x])(h:E8 l p=some r)(hf:∀x b,p x=some b->Cw Tryz.prog CF (1000000+g) (av x::caps) (.bool b)):Den bC (.int .i64 r) [.sl (l.map av), .fn g caps]:=by
 obtain⟨hn,h⟩:=GL h;unfold Den bC;refine Ce (by simp) ?_;refine kS UZ l.length (λq=> [.int .i64 q]) (λq=>DR p (l.drop q) q=some r) (by simpa using h) (by simp) λq hq hJ W hW=> ?_;by_cases AI:q<l.length
 ·obtain⟨b,hb,Ho,F2⟩:=jQ AI hJ;refine Ce (by simp[BD]) (EE (t:=true) (by simp[BD,AI]) (λ_=> ?_) (by simp));refine Ce (λ_=>⟨.i64,q,l.length,by simp,by omega,by simp,by omega,by simp[AI,hs]⟩) (Vi (r:= .bool b) (λ_=>⟨g,caps,by simp,?_,by simp⟩) ?_)
  ·have:=hf l[q] b hb;simpa[AI,hs]using this
  ·cases b with
   |true=>exact EE (t:=true) (by simp) (λ_=>I8 (by simp[Ho rfl])) (by simp)
   |false=>refine EE (t:=false) (by simp) (by simp) λ_=>Ce (by simp[BD]) (LD ?_);have:=hW AI (F2 rfl);simpa[BD,Ch (n:=(q:Int)+1) (by omega) (by omega)]using this
 ·have HX:q=l.length:=by omega
  subst HX;have hr:r= -1:=by simpa[DR]using hJ.symm
  refine Ce (by simp[BD]) (EE (t:=false) (by simp[BD]) (by simp) λ_=>Vp ?_);exact I8 (by simp[hr])
def VQ(f:Nat):Tr:=
 .call [] (.inl f) (.cons (.var 0) (.cons (.var 1) .nil))<|
 .bg [] (.dfd (.bin .geq (.var 2) (.int .i64 (0))))<|
 .ret (.bin .geq (.var 2) (.int .i64 (0)))
theorem lS{α:Type}{l:List α}{p:α->Option Bool}{f:Nat}{x y:AV}{r:Bool}(h:IY l p=some r)(hf:∀i,E8 l p=some i->Cw Tryz.prog CF f [x,y] (.int .i64 i)):Den (VQ f) (.bool r) [x,y]:=by obtain⟨i,hi,h⟩:=JJ h;unfold Den VQ;refine RX (λ_=>by simpa using hf i hi) (Ce (by simp[BD]) (I8 ?_));simp only[Af]at h;simp[BD,<-h]
def aZ(bytes sz:Nat):Tr:=
 .bg [] (.dfd (.len (.var 0)))<|
 .br [] (.var 0)<|
 .ite (.var 1) (
  .ret (.lst .nil)) (
  .bg [] (.room (.lst .nil) (.var 0) bytes)<|
  .bg [] (.flatS (.var 0) sz)<|
  .ret (.app (.lst .nil) (.var 0)))
theorem zu9{α:Type}{av:α->AV}{xs r:List α}{bytes sz:Nat}(hs:∀x,(av x).cells.length=sz/\ ∀z∈(av x).cells,z.scalar=true)(h:aD bytes xs=some r):Den (aZ bytes sz) (.sl (r.map av)) [.sl (xs.map av)]:=by
 obtain⟨hq,h⟩:=GL h;cases h;unfold Den aZ;refine Ce (by simp) λb hb=> ?_;cases b with
 |true=>have:=hb (by simp) rfl;exact EE (t:=true) (by simp) (λ_=>I8 (by simpa using this.symm)) (by simp)
 |false=>exact EE (t:=false) (by simp) (by simp) λ_=>Ce (λ_=>⟨0,xs.length,by simp,by simp,by simpa using hq.1,by simpa using hq.2⟩) (Ce (λ_=>zxS (xs:=xs) av (by simp) hs) (I8 (by simp)))
end Go.Proofs.YtkpifpljpoochaaGreatDoor
end
section
namespace Go.Proofs.YtkpifpljpoochaaGreatDoor
open Go.ChangeShapes Go.WideShapes Go.ChangeAt Go.RowKit
theorem zv7{P:Program}{w:World}:Dr P w [] [] [] [] [] [] [] []:= .nil
theorem jV{P:Program}{w:World}{t:TypeId}{ts:List TypeId}{v:Value}{vs:List Value}{x:AV}{xs:List AV}{f rf:List Nat}(h:Rd w [v] [x] f)(k:Dr P w ts [] [] vs xs rf [] []):Dr P w (t::ts) [] [] (v::vs) (x::xs) (f++rf) [] []:=
 Dr.cons (h:=[]) (hs:=[]) (ms:=[]) (lo:=[]) ⟨h,rfl⟩ k
theorem zwb{P:Program}{sg:BR}{f:Nat}{fn:Func}{t:TypeId}{xs:List AV}(h:Cw P sg f xs (.bool true))(hf:f<1000000){s:FF}(hs:sg f=some s)(EN:s.ft=[])(Kc:∀m∈s.cf,m= .ro)(F3:HM P t s.res=false)(FJ:P.funcs[f]?=some fn)(hr:(DE fn s)=[t])
  {w:World} {vs:List Value} {rf:List Nat} (ha:Dr P w fn.params.toList [] [] vs xs rf [] []) (Ez:Kl.n<=w.heap.size/\Kl.K w) (Jm:s.pv=false:=by rfl):
  Calls P f vs.toArray w λe w'=>e= .returned (.bool true)/\Below w.heap.size w w':=by
 unfold Cw at h;rw[if_pos hf]at h;obtain⟨s',Bd,fn',Iu,_,_,_,_,_,hc⟩:=h;rw[hs]at Bd;obtain rfl:=Option.some.inj Bd;rw[FJ]at Iu;obtain rfl:=Option.some.inj Iu;refine(hc w vs rf [] [] (by rw[EN,AJ,show Ew fn s=fn.params.toList from by unfold Ew;rw[Jm];rfl];exact ha.gu _ _ Kc) (by simp) (by simp) (by simp) ⟨Ez.1,Ez.2,by simp⟩).mono λe w' ⟨v,he,hp⟩=> ?_;obtain⟨⟨R,bs,f1,o1,f2,o2,hR,AQ,_⟩,hm⟩:=hp;have pB:R= .bool true:=by
  cases bs with
  |nil=>exact hR.symm
  |cons=>cases hR
 subst pB;rw[hr]at AQ;have h2:F0 P w' t s.res v (.bool true) f1 o1:=AQ;unfold F0 at h2;rw[F3]at h2;obtain⟨h3,_⟩:=h2;have:v= .bool true:=by cases h3;rfl
 subst this;exact⟨he,hm.below⟩
section
variable {P:Program} {t:TypeId} {Q:List AV->Prop} {H:Type} {enc:TypeId × Value->H} {w:World} {spare:Nat->Bool} {held:Bool} {v:Value} {d:DataW H} {p:List MemPlace} {r:Reach} {base:Nat}
theorem zxI(hO:GM P t Q)(hc:v.cells= #[v])(h:DataW.Trod enc P w 0 spare held t v d p):∃x f,Rd w [v] [x] f/\Q [x]:=by
 obtain⟨n,h⟩:=h;rw[hc]at h;obtain⟨_,_,xs,f,hr,hq⟩:=hO.2 _ _ _ _ _ _ _ _ h;have hl:=hr.len
 match xs,hl with
 | [x],_=>exact⟨x,f,hr,hq⟩
theorem jI{e:TypeId}(hO:GM P t Q)(ht:P.underlying t=some (.slice e))(hv:Value.okWide P w r base t v)(h:DataW.Trod enc P w 0 spare held t v d p):∃x f,Rd w [v] [x] f/\Q [x]:=by obtain⟨a,l,c,rfl⟩:=okWide_slice ht hv;exact zxI hO rfl h
end
theorem zy2{a b:Bool}(ha:a=true)(hb:b=true):(a&&b)=true:=by rw[ha,hb];rfl
def ND(n:Int):Prop:=0<=n/\n<=255
def To{α:Type}(ok:α->Prop)(l:List α):Prop:=l.length<=9223372036854775807/\ ∀x∈l,ok x
theorem sJ{n:Int}(h:EV .u8 n):ND n:=by unfold EV at h;simp only[IntKind.wrap,IntKind.bits,IntKind.signed]at h;unfold ND;simp at h;omega
section
variable {P:Program} {t e:TypeId} {α:Type} {ok:α->Prop} {av:α->AV}
theorem sH(ht:P.underlying t=some (.int .u8))(hc:P.cellsOf t=1):GM P t λxs=> ∃n,ND n/\xs=[PQ n]:=
 (zxq ht hc).mono λ_ ⟨n,h,e⟩=>⟨n,sJ h,e⟩
theorem kN:∀{ys:List AV},(∀y∈ys,Jk false (λxs=> ∃c,ok c/\xs=[av c]) y)-> ∃l:List α,(∀c∈l,ok c)/\ys=l.map av
 | [],_=>⟨[],by simp,rfl⟩
 |y::ys,h=>by obtain⟨l,hl,rfl⟩:=kN λz hz=>h z (List.mem_cons_of_mem _ hz);have h0:=h y (List.mem_cons_self ..);simp only[Jk,BX,if_false]at h0;obtain⟨_,c,hk,hc⟩:=h0;exact⟨c::l,by simpa using⟨hk,hl⟩,by simp at hc;simp[hc]⟩
theorem zzR(ht:P.underlying t=some (.slice e))(hc:P.cellsOf t=1)(K0:P.cellsOf e=1)(he:GM P e λxs=> ∃c,ok c/\xs=[av c]):GM P t λxs=> ∃l:List α,To ok l/\xs=[.sl (l.map av)]:=
 (ztS false ht hc he (.inr K0)).mono λ_ ⟨ys,hl,hy,e⟩=>by obtain⟨l,hk,rfl⟩:=kN hy;exact⟨l,⟨by simpa using hl,hk⟩,e⟩
end
end Go.Proofs.YtkpifpljpoochaaGreatDoor
end
section
namespace Go.Proofs.YtkpifpljpoochaaGreatDoor
open Go.RowKit
set_option maxRecDepth 100000
structure Bf where
 bb:List UInt8
 al:List UInt8
@[simp] def KG(x:Bf):AV:= .agg [.str x.bb, .str x.al]
structure AE where
 ar:List Int
 bz:Int
 au:Int
@[simp] def zx5(x:AE):AV:= .agg [.sl (x.ar.map PQ), .int .i64 x.bz, .int .u64 x.au]
structure Be where
 ab:List UInt8
 a7:Int
 bf:Int
@[simp] def oO(x:Be):AV:= .agg [.str x.ab, .int .i64 x.a7, .int .i64 x.bf]
structure Ak where
 ab:List UInt8
 aq:List (List UInt8)
 af:List Be
@[simp] def zx4(x:Ak):AV:= .agg [.str x.ab, .sl (x.aq.map Jh), .sl (x.af.map oO)]
structure Ac where
 ae:List (List UInt8)
@[simp] def zzW(x:Ac):AV:= .agg [.sl (x.ae.map Jh)]
structure Ai where
 ah:List UInt8
 bd:List UInt8
 bp:Bool
@[simp] def zxD(x:Ai):AV:= .agg [.str x.ah, .str x.bd, .bool x.bp]
structure Dd where
 aw:Int
 cq:Ac
 ct:Ac
@[simp] def zwM(x:Dd):AV:= .agg [.int .i64 x.aw, .sl (x.cq.ae.map Jh), .sl (x.ct.ae.map Jh)]
structure B0 where
 aw:Int
 cm:Dd
 ay:List UInt8
 bw:List UInt8
 a8:List UInt8
@[simp] def zyR(x:B0):AV:= .agg [.int .i64 x.aw, .int .i64 x.cm.aw, .sl (x.cm.cq.ae.map Jh), .sl (x.cm.ct.ae.map Jh), .str x.ay, .str x.bw, .str x.a8]
end Go.Proofs.YtkpifpljpoochaaGreatDoor
end
section
namespace Go.Proofs.YtkpifpljpoochaaGreatDoor
open Go.ChangeShapes Go.WideShapes Go.ChangeAt Go.RowKit
set_option maxRecDepth 100000
theorem sE:GM Tryz.prog 5 λxs=> ∃n,ND n/\xs=[PQ n]:=sH Tryz.underlying5 (by kernel_rfl)
theorem dS:GM Tryz.prog 22 λxs=> ∃l:List Int,To ND l/\xs=[.sl (l.map PQ)]:=zzR Tryz.underlying22 (by kernel_rfl) (by kernel_rfl) sE
end Go.Proofs.YtkpifpljpoochaaGreatDoor
end
section
namespace Go.Proofs.YtkpifpljpoochaaGreatDoor
open Go.RowKit
set_option maxRecDepth 100000
def H8{α:Type}(p:α->Option Bool):List α->Option (List α)
 | []=>some []
 |x::xs=>(p x).bind λb=>(H8 p xs).bind λr=>some (if b=true then r else x::r)
noncomputable def Ks{α:Type}(xs:List α)(p:α->Option Bool):Option (List α):=req (xs.length<=9223372036854775806) (H8 p xs)
theorem Zk{α:Type}{p:α->Option Bool}(q:α->Bool):∀{l:List α},(∀x∈l,p x=some (q x))->H8 p l=some (l.filter λx=> !q x)
 | [],_=>rfl
 |x::l,h=>by have e:=Zk (p:=p) q (l:=l) λy hy=>h y (List.mem_cons_of_mem _ hy);simp only[H8,h x (by simp),e,Aa,List.filter_cons];cases q x<;>rfl
theorem fU{α:Type}{p:α->Option Bool}{l r:List α}{q:Nat}(hq:q<l.length)(h:H8 p (l.drop q)=some r):∃b r',p l[q]=some b/\H8 p (l.drop (q+1))=some r'/\r=if b=true then r' else l[q]::r':=by rw[BL hq]at h;obtain⟨b,hb,h⟩:=JJ h;obtain⟨r',hr,h⟩:=JJ h;exact⟨b,r',hb,hr,by simpa using h.symm⟩
theorem YS{α:Type}{p:α->Option Bool}:∀{l r:List α} (i:Int),H8 p l=some r->(DR p l i=some (-1)/\r=l)\/ ∃k r',k<l.length/\DR p l i=some (i+(k:Nat))/\H8 p (l.drop (k+1))=some r'/\r=l.take k++r'
 | [],r,i,h=>by cases h;exact .inl ⟨rfl,rfl⟩
 |x::l,r,i,h=>by
  obtain⟨b,hb,h⟩:=JJ h;obtain⟨r1,hr,h⟩:=JJ h;cases b with
  |true=>
   have:r1=r:=by simpa using h
   subst this;exact .inr ⟨0,r1,by simp,by simp[DR,hb],by simpa using hr,by simp⟩
  |false=>
   have:r=x::r1:=by simpa using h.symm
   subst this;rcases YS (i+1) hr with⟨h1,rfl⟩|⟨k,r',h1,h2,h3,rfl⟩
   ·exact .inl ⟨by simp[DR,hb,h1],rfl⟩
   ·exact .inr ⟨k+1,r',by simp;omega,by simp[DR,hb,h2];omega,by simpa using h3,by simp⟩
def bU(ck:List Cn)(k:Tr):Tr:=ck.foldr (λc k=> .bg [] c k) k
section
variable {Rt:Nat->List AV->AV->Prop} {R:AV->Prop} {L:LK} {js:List JK} {ρ:List AV}
theorem ZM:∀{ck:List Cn} {k:Tr},(∀c∈ck,c.den ρ)->k.den Rt R L js ρ->(bU ck k).den Rt R L js ρ
 | [],_,_,hk=>hk
 |c::ck,k,h,hk=>⟨λ_=>h c (by simp),ZM (λq hq=>h q (by simp[hq])) hk⟩
theorem kV{t k:Tr}{K:List AV->Prop}(hK:∀vs,K vs->k.den Rt R L js (ρ++vs))(ht:∀j:JK,(∀vs,K vs->j vs)->t.den Rt R L (j::js) ρ):(Tr.join t k).den Rt R L js ρ:=ht _ hK
end
def bJ(fi cn:Nat)(g:Bool)(X:E)(ck:List Cn)(z:E):Tr:=
 .call [] (.inl fi) (.cons (.var 0) (.cons (.var 1) .nil))<|
 .bg [] (.dfd (.bin .eql (.var 2) (.int .i64 (-1))))<|
 .ite (.bin .eql (.var 2) (.int .i64 (-1))) (
  .ret (.var 0)) (
  .bg [] (.dfd (.bin .add (.var 2) (.int .i64 (1))))<|
  .loop (.cons (.var 2) (.cons (.bin .add (.var 2) (.int .i64 (1))) (.cons (.var 0) .nil))) (
  .bg [] (.dfd (.len (.var 5)))<|
  .bg [] (.dfd (.bin .lss (.var 4) (.len (.var 5))))<|
  .ite (.bin .lss (.var 4) (.len (.var 5))) (
   .join (
   .bg [] (.inb (.var 4) (.var 5) cn)<|
   bU ck<|
   .call [] (.inr (.var 1)) (.cons X .nil)<|
   .bg [] (.dfd (.not (.var 6)))<|
   .ite (.not (.var 6)) (
    .bg [] (.inb (.var 3) (.var 5) cn)<|
    .bg [] (.flat X cn g)<|
    .bg [] (.flat (.fld (.idx (.var 5) (.var 3)) 0 cn g) cn g)<|
    .bg [] (.dfd (.bin .add (.var 3) (.int .i64 (1))))<|
    .jmp 0 (.cons (.bin .add (.var 3) (.int .i64 (1))) (.cons (.set (.var 5) (.var 3) (.put (.idx (.var 5) (.var 3)) 0 X g)) .nil))) (
    .jmp 0 (.cons (.var 3) (.cons (.var 5) .nil)))) (
   .bg [] (.dfd (.bin .add (.var 4) (.int .i64 (1))))<|
   .jmp 0 (.cons (.var 6) (.cons (.bin .add (.var 4) (.int .i64 (1))) (.cons (.var 7) .nil))))) (
   .jmp 1 (.cons (.var 3) (.cons (.var 5) .nil)))) (
  .bg [] (.win (.var 4) (.var 3) (.len (.var 4)))<|
  .bg [] (.win (.var 4) (.var 3) (.len (.var 4)))<|
  .bg [] (.dfd (.bin .sub (.len (.var 4)) (.var 3)))<|
  .bg [] (.win (.app (.win (.var 4) (.int .i64 (0)) (.var 3)) (.rep (.bin .sub (.len (.var 4)) (.var 3)) z)) (.int .i64 (0)) (.var 3))<|
  .ret (.win (.app (.win (.var 4) (.int .i64 (0)) (.var 3)) (.rep (.bin .sub (.len (.var 4)) (.var 3)) z)) (.int .i64 (0)) (.var 3))))
theorem zxo{α:Type}{av:α->AV}{l r:List α}{p:α->Option Bool}{fi cn g9:Nat}{g:Bool}{X z:E}{ck:List Cn}{caps:List AV}
  (hs:∀x,(av x).cells.length=cn/\(∀z∈(av x).cells,z.scalar=true)/\(g=true-> ∃cs,av x= .agg cs)/\(g=false->(av x).scalar=true)) (pR:0<cn)
  (hX:∀(a b c d:AV) (j:Nat) (ys:List AV) (x:α) (tl:List AV),ys[j]?=some (av x)->X.den ([a,b,c,d, .int .i64 j, .sl ys]++tl)=av x)
  (Ip:∀(a b c d:AV) (j:Nat) (ys:List AV) (x:α),ys[j]?=some (av x)-> ∀q∈ck,q.den [a,b,c,d, .int .i64 j, .sl ys])
  (h:Ks l p=some r) (hi:∀i,E8 l p=some i->Cw Tryz.prog CF fi [.sl (l.map av), .fn g9 caps] (.int .i64 i))
  (hf:∀x b,p x=some b->Cw Tryz.prog CF (1000000+g9) (av x::caps) (.bool b)):Den (bJ fi cn g X ck z) (.sl (r.map av)) [.sl (l.map av), .fn g9 caps]:=by
 obtain⟨hn,h⟩:=GL h;unfold Den bJ;have HA:∀x y:α,(av y).cx 0 (av x) g=av x:=by
  intro x y;cases g with
  |false=>rfl
  |true=>
   obtain⟨cs,Bi⟩:=(hs x).2.2.1 rfl;have e1:=(hs x).1;have e2:=(hs y).1;have e3:(av x).cells=cs:=by rw[Bi];rfl
   have e4:(av y).cells.drop (0+cs.length)=[]:=List.drop_eq_nil_of_le (by rw[e2,<-e1,e3];omega);show AV.agg ((av y).cells.take 0++(av x).cells++(av y).cells.drop (0+(av x).cells.length))=av x;rw[e3,e4,AJ,List.take_zero,List.nil_append,Bi]
 have WC:∀x:α,(av x).fld 0 cn g=av x:=by
  intro x;cases g with
  |false=>have:=xZ ((hs x).2.2.2 rfl);simp[AV.fld,this]
  |true=>obtain⟨cs,Bi⟩:=(hs x).2.2.1 rfl;have e1:=(hs x).1;rw[Bi]at e1 ⊢;simp only[AV.fld,if_true,AV.cells]at e1 ⊢;rw[List.drop_zero,List.take_of_length_le (by omega)]
 have Bq:∀(e:E) (ρ:List AV) (x:α),e.den ρ=av x->Cn.den ρ (.flat e cn g):=λe ρ x he=>by
  show(e.den ρ).cells.length=cn/\(∀y∈(e.den ρ).cells,y.scalar=true)/\(g=true-> ∃cs,e.den ρ= .agg cs)/\(g=false->(e.den ρ).scalar=true)
  rw[he];exact hs x
 rcases YS 0 h with⟨h1,rfl⟩|⟨k0,r0,J6,h1,h2,rfl⟩
 ·refine RX (r:= .int .i64 (-1)) (λ_=>hi _ (by unfold E8;rw[show req (r.length<=9223372036854775806) (DR p r 0)=DR p r 0 from if_pos hn];exact h1)) ?_;exact Ce (by simp[BD]) (EE (t:=true) (by simp[BD]) (λ_=>I8 (by simp)) (by simp))
 ·refine RX (r:= .int .i64 k0) (λ_=>hi _ (by unfold E8;rw[show req (l.length<=9223372036854775806) (DR p l 0)=DR p l 0 from if_pos hn,h1];simp)) ?_;have hw:IntKind.i64.wrap ((k0:Int)+1)=k0+1:=Ch (by omega) (by omega);refine Ce (by simp[BD]) (EE (t:=false) (by simp[BD];try omega) (by simp) λ_=>Ce (by simp[BD]) ?_);refine ZX UZ (λm vs=> ∃(j:Nat) (K zs r':List α),j+m=l.length/\vs=[.int .i64 K.length, .int .i64 j, .sl (zs.map av)]/\K.length<j/\zs.length=l.length/\zs.take K.length=K/\zs.drop j=l.drop j/\H8 p (l.drop j)=some r'/\l.take k0++r0=K++r') (m:=l.length-(k0+1))
   ⟨k0+1,l.take k0,l,r0,by omega,?_,by simp;omega,rfl,by simp[Nat.min_eq_left (Nat.le_of_lt J6)],rfl,h2,rfl⟩ ?_
  ·simp[BD,hw,Nat.min_eq_left (Nat.le_of_lt J6)]
  rintro m vs ⟨j,K,zs,r',hj,rfl,o6,Jp,MT,MQ,CL,AQ⟩;refine Ce (by simp) (Ce (by simp[BD]) ?_);by_cases AI:j<l.length
  ·refine EE (t:=true) (by simp[BD,Jp,AI]) (λ_=> ?_) (by simp);obtain⟨b,r2,hb,Dy,QP⟩:=fU AI CL;have Q1:zs[j]?=some l[j]:=by
    have:=congrArg (λL=>L[0]?) MQ;simpa[AI]using this
   have E7:(zs.map av)[j]?=some (av l[j]):=by simp[Q1]
   have Ij:K.length<zs.length:=by omega
   have XE:IntKind.i64.wrap ((j:Int)+1)=j+1:=Ch (by omega) (by omega);have XC:IntKind.i64.wrap ((K.length:Int)+1)=K.length+1:=Ch (by omega) (by omega);refine kV (K:=λus=> ∃(K' zs':List α),us=[.int .i64 K'.length, .sl (zs'.map av)]/\K'.length<j+1/\zs'.length=l.length/\zs'.take K'.length=K'/\zs'.drop (j+1)=l.drop (j+1)/\l.take k0++r0=K'++r2) ?_ ?_
   ·rintro us ⟨K',zs',rfl,a1,a2,a3,a4,a5⟩;refine Ce (by simp[BD]) (LD ⟨m-1,by omega,j+1,K',zs',r2,by omega,?_,a1,a2,a3,a4,Dy,a5⟩);simp[BD,XE]
   ·intro J hJ;refine Ce (λ_=>⟨.i64,j,zs.length,by simp,by omega,by simp,by omega,?_⟩) (ZM (Ip _ _ _ _ j (zs.map av) _ E7) (Vi (r:= .bool b) (λ_=>⟨g9,caps,by simp,?_,by simp⟩) ?_))
    ·simp[AV.nth,Q1,(hs l[j]).1]
    ·have e1:=hX (.sl (l.map av)) (.fn g9 caps) (.int .i64 k0) (.int .i64 K.length) j (zs.map av) l[j] [] E7;rw[AJ]at e1;show Cw Tryz.prog CF (1000000+g9) ([X.den [.sl (l.map av), .fn g9 caps, .int .i64 k0, .int .i64 K.length, .int .i64 j, .sl (zs.map av)]]++caps) (.bool b);rw[e1];exact hf _ _ hb
    ·refine Ce (by simp) ?_;have e2:=hX (.sl (l.map av)) (.fn g9 caps) (.int .i64 k0) (.int .i64 K.length) j (zs.map av) l[j] [.bool b] E7;cases b with
     |true=>refine EE (t:=false) (by simp) (by simp) λ_=>LD (hJ _ ⟨K,zs,by simp,by omega,Jp,MT,?_,by rw[AQ,QP];simp⟩);have:=congrArg (List.drop 1) MQ;simpa[List.drop_drop]using this
     |false=>
      refine EE (t:=true) (by simp) (λ_=> ?_) (by simp);obtain⟨zk,Q2⟩:∃zk,zs[K.length]?=some zk:=⟨zs[K.length],by simp[Ij]⟩
      have e3:(E.idx (.var 5) (.var 3)).den ([AV.sl (l.map av), .fn g9 caps, .int .i64 k0, .int .i64 K.length, .int .i64 j, .sl (zs.map av)]++ [.bool false])=av zk:=by simp[AV.nth,Q2]
      refine Ce (λ_=>⟨.i64,K.length,zs.length,by simp,by omega,by simp,by omega,?_⟩) (Ce (λ_=>Bq _ _ _ e2) (Ce (λ_=>Bq _ _ zk ?_) (Ce (by simp[BD]) (LD (hJ _ ⟨K++ [l[j]],zs.set K.length l[j],?_,by simp;omega,by simpa using Jp,?_,?_,by rw[AQ,QP];simp⟩)))))
      ·simp[AV.nth,Q2,(hs zk).1]
      ·exact(congrArg (λy=>AV.fld y 0 cn g) e3).trans (WC zk)
      ·have e4:(E.set (.var 5) (.var 3) (.put (.idx (.var 5) (.var 3)) 0 X g)).den ([AV.sl (l.map av), .fn g9 caps, .int .i64 k0, .int .i64 K.length, .int .i64 j, .sl (zs.map av)]++ [.bool false])= .sl ((zs.set K.length l[j]).map av):=by
        show AV.cr _ _ (AV.cx ((E.idx (.var 5) (.var 3)).den _) 0 (X.den _) g)=_;rw[e3,e2,HA];simp[AV.cr,List.map_set]
       show EL.den _ (.cons (.bin .add (.var 3) (.int .i64 1)) (.cons (.set (.var 5) (.var 3) (.put (.idx (.var 5) (.var 3)) 0 X g)) .nil))=_;simp only[EL.den];have e5:(E.bin .add (.var 3) (.int .i64 1)).den ([AV.sl (l.map av), .fn g9 caps, .int .i64 k0, .int .i64 K.length, .int .i64 j, .sl (zs.map av)]++ [.bool false])= .int .i64 ((K++ [l[j]]).length:Int):=by simp[BD,XC]
       congr 1;congr 1
      ·rw[Ap,AL,List.take_add_one,List.take_set_of_le (Ay _),MT];simp[Ij]
      ·rw[List.drop_set_of_lt (by omega)];have:=congrArg (List.drop 1) MQ;simpa[List.drop_drop]using this
  ·have WR:j=l.length:=by omega
   subst WR;refine EE (t:=false) (by simp[BD,Jp]) (by simp) λ_=>Vp ?_;have F7:r'=[]:=by rw[List.drop_eq_nil_of_le (Ay _)]at CL;exact(by simpa[H8]using CL.symm)
   subst F7;rw[AQ,AJ];have XF:IntKind.i64.wrap ((zs.length:Int)-K.length)=zs.length-K.length:=Ch (by omega) (by omega);have d3:(E.var 3).den ([AV.sl (l.map av),AV.fn g9 caps]++ [AV.int .i64 (k0:Int)]++ [AV.int .i64 (K.length:Int),AV.sl (zs.map av)])= .int .i64 K.length:=by simp
   have d4:(E.var 4).den ([AV.sl (l.map av),AV.fn g9 caps]++ [AV.int .i64 (k0:Int)]++ [AV.int .i64 (K.length:Int),AV.sl (zs.map av)])= .sl (zs.map av):=by simp
   have dm:(E.bin .sub (.len (.var 4)) (.var 3)).den ([AV.sl (l.map av),AV.fn g9 caps]++ [AV.int .i64 (k0:Int)]++ [AV.int .i64 (K.length:Int),AV.sl (zs.map av)])= .int .i64 ((zs.length:Int)-K.length):=by simp[BD,XF]
   have Ft:Cn.den ([AV.sl (l.map av),AV.fn g9 caps]++ [AV.int .i64 (k0:Int)]++ [AV.int .i64 (K.length:Int),AV.sl (zs.map av)]) (.win (.var 4) (.var 3) (.len (.var 4))):=⟨.i64,K.length, .i64,zs.length,zs.length,d3,by simp,by rw[d4];simp,by omega,by omega,by omega⟩
   have dapp:(E.app (.win (.var 4) (.int .i64 (0)) (.var 3)) (.rep (.bin .sub (.len (.var 4)) (.var 3)) z)).den ([AV.sl (l.map av),AV.fn g9 caps]++ [AV.int .i64 (k0:Int)]++ [AV.int .i64 (K.length:Int),AV.sl (zs.map av)])= .sl ((zs.map av).take K.length++List.replicate (zs.length-K.length) (z.den ([AV.sl (l.map av),AV.fn g9 caps]++ [AV.int .i64 (k0:Int)]++ [AV.int .i64 (K.length:Int),AV.sl (zs.map av)]))):=by show AV.app (AV.win ((E.var 4).den _) (.int .i64 0) ((E.var 3).den _)) (AV.rep ((E.bin .sub (.len (.var 4)) (.var 3)).den _) _)=_;rw[d3,d4,dm];simp only[AV.win,AV.rep,AV.app,FY,Int.toNat_zero,List.drop_zero];congr 3;omega
   refine Ce (λ_=>Ft) (Ce (λ_=>Ft) (Ce (λ_=>λhu=>by have:=dm.symm.trans hu;simp at this) (Ce (λ_=>⟨.i64,0, .i64,K.length,zs.length,rfl,d3,?_,by omega,by omega,by omega⟩) (I8 ?_))))
   ·refine(congrArg AV.len dapp).trans ?_;simp only[AV.len,Ap,A1,List.length_map,List.length_replicate];congr 1;omega
   ·refine(congrArg (λy=>AV.win y (.int .i64 0) (.int .i64 K.length)) dapp).trans ?_;simp only[AV.win,FY,Int.toNat_zero,List.drop_zero];rw[List.take_append_of_le_length (by simp;omega),List.take_take,Nat.min_self,<-List.map_take,MT]
def aY(fi cn:Nat)(X:E)(ck:List Cn)(z:E):Tr:=
 .call [] (.inl fi) (.cons (.var 0) (.cons (.var 1) .nil))<|
 .bg [] (.dfd (.bin .eql (.var 2) (.int .i64 (-1))))<|
 .ite (.bin .eql (.var 2) (.int .i64 (-1))) (
  .ret (.var 0)) (
  .bg [] (.dfd (.bin .add (.var 2) (.int .i64 (1))))<|
  .loop (.cons (.var 2) (.cons (.bin .add (.var 2) (.int .i64 (1))) (.cons (.var 0) .nil))) (
  .bg [] (.dfd (.len (.var 5)))<|
  .bg [] (.dfd (.bin .lss (.var 4) (.len (.var 5))))<|
  .ite (.bin .lss (.var 4) (.len (.var 5))) (
   .join (
   .bg [] (.inb (.var 4) (.var 5) cn)<|
   bU ck<|
   .call [] (.inr (.var 1)) (.cons X .nil)<|
   .bg [] (.dfd (.not (.var 6)))<|
   .ite (.not (.var 6)) (
    .bg [] (.inb (.var 3) (.var 5) cn)<|
    .bg [] (.agg X cn)<|
    .bg [] (.dfd (.bin .add (.var 3) (.int .i64 (1))))<|
    .jmp 0 (.cons (.bin .add (.var 3) (.int .i64 (1))) (.cons (.set (.var 5) (.var 3) (.put (.idx (.var 5) (.var 3)) 0 X true)) .nil))) (
    .jmp 0 (.cons (.var 3) (.cons (.var 5) .nil)))) (
   .bg [] (.dfd (.bin .add (.var 4) (.int .i64 (1))))<|
   .jmp 0 (.cons (.var 6) (.cons (.bin .add (.var 4) (.int .i64 (1))) (.cons (.var 7) .nil))))) (
   .jmp 1 (.cons (.var 3) (.cons (.var 5) .nil)))) (
  .bg [] (.win (.var 4) (.var 3) (.len (.var 4)))<|
  .bg [] (.win (.var 4) (.var 3) (.len (.var 4)))<|
  .bg [] (.dfd (.bin .sub (.len (.var 4)) (.var 3)))<|
  .bg [] (.win (.app (.win (.var 4) (.int .i64 (0)) (.var 3)) (.rep (.bin .sub (.len (.var 4)) (.var 3)) z)) (.int .i64 (0)) (.var 3))<|
  .ret (.win (.app (.win (.var 4) (.int .i64 (0)) (.var 3)) (.rep (.bin .sub (.len (.var 4)) (.var 3)) z)) (.int .i64 (0)) (.var 3))))
theorem zvV{α:Type}{av:α->AV}{l r:List α}{p:α->Option Bool}{fi cn g9:Nat}{X z:E}{ck:List Cn}{caps:List AV}
  (hs:∀x,(av x).cells.length=cn/\ ∃cs,av x= .agg cs) (pR:0<cn)
  (hX:∀(a b c d:AV) (j:Nat) (ys:List AV) (x:α) (tl:List AV),ys[j]?=some (av x)->X.den ([a,b,c,d, .int .i64 j, .sl ys]++tl)=av x)
  (Ip:∀(a b c d:AV) (j:Nat) (ys:List AV) (x:α),ys[j]?=some (av x)-> ∀q∈ck,q.den [a,b,c,d, .int .i64 j, .sl ys])
  (h:Ks l p=some r) (hi:∀i,E8 l p=some i->Cw Tryz.prog CF fi [.sl (l.map av), .fn g9 caps] (.int .i64 i))
  (hf:∀x b,p x=some b->Cw Tryz.prog CF (1000000+g9) (av x::caps) (.bool b)):Den (aY fi cn X ck z) (.sl (r.map av)) [.sl (l.map av), .fn g9 caps]:=by
 obtain⟨hn,h⟩:=GL h;unfold Den aY;have HA:∀x y:α,(av y).cx 0 (av x) true=av x:=by
  intro x y;obtain⟨cs,Bi⟩:=(hs x).2;have e1:=(hs x).1;have e2:=(hs y).1;have e3:(av x).cells=cs:=by rw[Bi];rfl
  have e4:(av y).cells.drop (0+cs.length)=[]:=List.drop_eq_nil_of_le (by rw[e2,<-e1,e3];omega);show AV.agg ((av y).cells.take 0++(av x).cells++(av y).cells.drop (0+(av x).cells.length))=av x;rw[e3,e4,AJ,List.take_zero,List.nil_append,Bi]
 have Bq:∀(e:E) (ρ:List AV) (x:α),e.den ρ=av x->Cn.den ρ (.agg e cn):=λe ρ x he=>by show∃cs,e.den ρ= .agg cs/\cs.length=cn;rw[he];obtain⟨cs,Bi⟩:=(hs x).2;have e1:=(hs x).1;rw[Bi]at e1;exact⟨cs,Bi,e1⟩
 rcases YS 0 h with⟨h1,rfl⟩|⟨k0,r0,J6,h1,h2,rfl⟩
 ·refine RX (r:= .int .i64 (-1)) (λ_=>hi _ (by unfold E8;rw[show req (r.length<=9223372036854775806) (DR p r 0)=DR p r 0 from if_pos hn];exact h1)) ?_;exact Ce (by simp[BD]) (EE (t:=true) (by simp[BD]) (λ_=>I8 (by simp)) (by simp))
 ·refine RX (r:= .int .i64 k0) (λ_=>hi _ (by unfold E8;rw[show req (l.length<=9223372036854775806) (DR p l 0)=DR p l 0 from if_pos hn,h1];simp)) ?_;have hw:IntKind.i64.wrap ((k0:Int)+1)=k0+1:=Ch (by omega) (by omega);refine Ce (by simp[BD]) (EE (t:=false) (by simp[BD];try omega) (by simp) λ_=>Ce (by simp[BD]) ?_);refine ZX UZ (λm vs=> ∃(j:Nat) (K zs r':List α),j+m=l.length/\vs=[.int .i64 K.length, .int .i64 j, .sl (zs.map av)]/\K.length<j/\zs.length=l.length/\zs.take K.length=K/\zs.drop j=l.drop j/\H8 p (l.drop j)=some r'/\l.take k0++r0=K++r') (m:=l.length-(k0+1))
   ⟨k0+1,l.take k0,l,r0,by omega,?_,by simp;omega,rfl,by simp[Nat.min_eq_left (Nat.le_of_lt J6)],rfl,h2,rfl⟩ ?_
  ·simp[BD,hw,Nat.min_eq_left (Nat.le_of_lt J6)]
  rintro m vs ⟨j,K,zs,r',hj,rfl,o6,Jp,MT,MQ,CL,AQ⟩;refine Ce (by simp) (Ce (by simp[BD]) ?_);by_cases AI:j<l.length
  ·refine EE (t:=true) (by simp[BD,Jp,AI]) (λ_=> ?_) (by simp);obtain⟨b,r2,hb,Dy,QP⟩:=fU AI CL;have Q1:zs[j]?=some l[j]:=by
    have:=congrArg (λL=>L[0]?) MQ;simpa[AI]using this
   have E7:(zs.map av)[j]?=some (av l[j]):=by simp[Q1]
   have Ij:K.length<zs.length:=by omega
   have XE:IntKind.i64.wrap ((j:Int)+1)=j+1:=Ch (by omega) (by omega);have XC:IntKind.i64.wrap ((K.length:Int)+1)=K.length+1:=Ch (by omega) (by omega);refine kV (K:=λus=> ∃(K' zs':List α),us=[.int .i64 K'.length, .sl (zs'.map av)]/\K'.length<j+1/\zs'.length=l.length/\zs'.take K'.length=K'/\zs'.drop (j+1)=l.drop (j+1)/\l.take k0++r0=K'++r2) ?_ ?_
   ·rintro us ⟨K',zs',rfl,a1,a2,a3,a4,a5⟩;refine Ce (by simp[BD]) (LD ⟨m-1,by omega,j+1,K',zs',r2,by omega,?_,a1,a2,a3,a4,Dy,a5⟩);simp[BD,XE]
   ·intro J hJ;refine Ce (λ_=>⟨.i64,j,zs.length,by simp,by omega,by simp,by omega,?_⟩) (ZM (Ip _ _ _ _ j (zs.map av) _ E7) (Vi (r:= .bool b) (λ_=>⟨g9,caps,by simp,?_,by simp⟩) ?_))
    ·simp[AV.nth,Q1,(hs l[j]).1]
    ·have e1:=hX (.sl (l.map av)) (.fn g9 caps) (.int .i64 k0) (.int .i64 K.length) j (zs.map av) l[j] [] E7;rw[AJ]at e1;show Cw Tryz.prog CF (1000000+g9) ([X.den [.sl (l.map av), .fn g9 caps, .int .i64 k0, .int .i64 K.length, .int .i64 j, .sl (zs.map av)]]++caps) (.bool b);rw[e1];exact hf _ _ hb
    ·refine Ce (by simp) ?_;have e2:=hX (.sl (l.map av)) (.fn g9 caps) (.int .i64 k0) (.int .i64 K.length) j (zs.map av) l[j] [.bool b] E7;cases b with
     |true=>refine EE (t:=false) (by simp) (by simp) λ_=>LD (hJ _ ⟨K,zs,by simp,by omega,Jp,MT,?_,by rw[AQ,QP];simp⟩);have:=congrArg (List.drop 1) MQ;simpa[List.drop_drop]using this
     |false=>
      refine EE (t:=true) (by simp) (λ_=> ?_) (by simp);obtain⟨zk,Q2⟩:∃zk,zs[K.length]?=some zk:=⟨zs[K.length],by simp[Ij]⟩
      have e3:(E.idx (.var 5) (.var 3)).den ([AV.sl (l.map av), .fn g9 caps, .int .i64 k0, .int .i64 K.length, .int .i64 j, .sl (zs.map av)]++ [.bool false])=av zk:=by simp[AV.nth,Q2]
      refine Ce (λ_=>⟨.i64,K.length,zs.length,by simp,by omega,by simp,by omega,?_⟩) (Ce (λ_=>Bq _ _ _ e2) (Ce (by simp[BD]) (LD (hJ _ ⟨K++ [l[j]],zs.set K.length l[j],?_,by simp;omega,by simpa using Jp,?_,?_,by rw[AQ,QP];simp⟩))))
      ·simp[AV.nth,Q2,(hs zk).1]
      ·have e4:(E.set (.var 5) (.var 3) (.put (.idx (.var 5) (.var 3)) 0 X true)).den ([AV.sl (l.map av), .fn g9 caps, .int .i64 k0, .int .i64 K.length, .int .i64 j, .sl (zs.map av)]++ [.bool false])= .sl ((zs.set K.length l[j]).map av):=by
        show AV.cr _ _ (AV.cx ((E.idx (.var 5) (.var 3)).den _) 0 (X.den _) true)=_;rw[e3,e2,HA];simp[AV.cr,List.map_set]
       show EL.den _ (.cons (.bin .add (.var 3) (.int .i64 1)) (.cons (.set (.var 5) (.var 3) (.put (.idx (.var 5) (.var 3)) 0 X true)) .nil))=_;simp only[EL.den];have e5:(E.bin .add (.var 3) (.int .i64 1)).den ([AV.sl (l.map av), .fn g9 caps, .int .i64 k0, .int .i64 K.length, .int .i64 j, .sl (zs.map av)]++ [.bool false])= .int .i64 ((K++ [l[j]]).length:Int):=by simp[BD,XC]
       congr 1;congr 1
      ·rw[Ap,AL,List.take_add_one,List.take_set_of_le (Ay _),MT];simp[Ij]
      ·rw[List.drop_set_of_lt (by omega)];have:=congrArg (List.drop 1) MQ;simpa[List.drop_drop]using this
  ·have WR:j=l.length:=by omega
   subst WR;refine EE (t:=false) (by simp[BD,Jp]) (by simp) λ_=>Vp ?_;have F7:r'=[]:=by rw[List.drop_eq_nil_of_le (Ay _)]at CL;exact(by simpa[H8]using CL.symm)
   subst F7;rw[AQ,AJ];have XF:IntKind.i64.wrap ((zs.length:Int)-K.length)=zs.length-K.length:=Ch (by omega) (by omega);have d3:(E.var 3).den ([AV.sl (l.map av),AV.fn g9 caps]++ [AV.int .i64 (k0:Int)]++ [AV.int .i64 (K.length:Int),AV.sl (zs.map av)])= .int .i64 K.length:=by simp
   have d4:(E.var 4).den ([AV.sl (l.map av),AV.fn g9 caps]++ [AV.int .i64 (k0:Int)]++ [AV.int .i64 (K.length:Int),AV.sl (zs.map av)])= .sl (zs.map av):=by simp
   have dm:(E.bin .sub (.len (.var 4)) (.var 3)).den ([AV.sl (l.map av),AV.fn g9 caps]++ [AV.int .i64 (k0:Int)]++ [AV.int .i64 (K.length:Int),AV.sl (zs.map av)])= .int .i64 ((zs.length:Int)-K.length):=by simp[BD,XF]
   have Ft:Cn.den ([AV.sl (l.map av),AV.fn g9 caps]++ [AV.int .i64 (k0:Int)]++ [AV.int .i64 (K.length:Int),AV.sl (zs.map av)]) (.win (.var 4) (.var 3) (.len (.var 4))):=⟨.i64,K.length, .i64,zs.length,zs.length,d3,by simp,by rw[d4];simp,by omega,by omega,by omega⟩
   have dapp:(E.app (.win (.var 4) (.int .i64 (0)) (.var 3)) (.rep (.bin .sub (.len (.var 4)) (.var 3)) z)).den ([AV.sl (l.map av),AV.fn g9 caps]++ [AV.int .i64 (k0:Int)]++ [AV.int .i64 (K.length:Int),AV.sl (zs.map av)])= .sl ((zs.map av).take K.length++List.replicate (zs.length-K.length) (z.den ([AV.sl (l.map av),AV.fn g9 caps]++ [AV.int .i64 (k0:Int)]++ [AV.int .i64 (K.length:Int),AV.sl (zs.map av)]))):=by show AV.app (AV.win ((E.var 4).den _) (.int .i64 0) ((E.var 3).den _)) (AV.rep ((E.bin .sub (.len (.var 4)) (.var 3)).den _) _)=_;rw[d3,d4,dm];simp only[AV.win,AV.rep,AV.app,FY,Int.toNat_zero,List.drop_zero];congr 3;omega
   refine Ce (λ_=>Ft) (Ce (λ_=>Ft) (Ce (λ_=>λhu=>by have:=dm.symm.trans hu;simp at this) (Ce (λ_=>⟨.i64,0, .i64,K.length,zs.length,rfl,d3,?_,by omega,by omega,by omega⟩) (I8 ?_))))
   ·refine(congrArg AV.len dapp).trans ?_;simp only[AV.len,Ap,A1,List.length_map,List.length_replicate];congr 1;omega
   ·refine(congrArg (λy=>AV.win y (.int .i64 0) (.int .i64 K.length)) dapp).trans ?_;simp only[AV.win,FY,Int.toNat_zero,List.drop_zero];rw[List.take_append_of_le_length (by simp;omega),List.take_take,Nat.min_self,<-List.map_take,MT]
abbrev oS:Nat->List AV->AV->Prop:=Cw Tryz.prog CF
@[reducible] def PN:Nat->Type
 |0=>Bf
 |1=>AE
 |2=>Be
 |3=>Ak
 |4=>Ac
 |5=>Ai
 |6=>Dd
 |7=>B0
 |_+8=>Unit
@[reducible] def VV:Nat->List Ty
 |0=> [.s, .s]
 |1=> [.l (.i .u8), .i .i64, .i .u64]
 |2=> [.s, .i .i64, .i .i64]
 |3=> [.s, .l .s, .l (.st 2)]
 |4=> [.l .s]
 |5=> [.s, .s, .b]
 |6=> [.i .i64, .l .s, .l .s]
 |7=> [.i .i64, .i .i64, .l .s, .l .s, .s, .s, .s]
 |_+8=> []
def MU:∀n,PN n->AV
 |0,x=>KG x
 |1,x=>zx5 x
 |2,x=>oO x
 |3,x=>zx4 x
 |4,x=>zzW x
 |5,x=>zxD x
 |6,x=>zwM x
 |7,x=>zyR x
 |_+8,_=> .agg []
def cA:∀n,PN n->HL PN (VV n)
 |0,x=>(x.bb,x.al,())
 |1,x=>(x.ar,x.bz,x.au,())
 |2,x=>(x.ab,x.a7,x.bf,())
 |3,x=>(x.ab,x.aq,x.af,())
 |4,x=>(x.ae,())
 |5,x=>(x.ah,x.bd,x.bp,())
 |6,x=>(x.aw,x.cq.ae,x.ct.ae,())
 |7,x=>(x.aw,x.cm.aw,x.cm.cq.ae,x.cm.ct.ae,x.ay,x.bw,x.a8,())
 |_+8,_=>()
def dT:∀n,HL PN (VV n)->PN n
 |0,x=>⟨x.1,x.2.1⟩
 |1,x=>⟨x.1,x.2.1,x.2.2.1⟩
 |2,x=>⟨x.1,x.2.1,x.2.2.1⟩
 |3,x=>⟨x.1,x.2.1,x.2.2.1⟩
 |4,x=>⟨x.1⟩
 |5,x=>⟨x.1,x.2.1,x.2.2.1⟩
 |6,x=>⟨x.1,⟨x.2.1⟩,⟨x.2.2.1⟩⟩
 |7,x=>⟨x.1,⟨x.2.1,⟨x.2.2.1⟩,⟨x.2.2.2.1⟩⟩,x.2.2.2.2.1,x.2.2.2.2.2.1,x.2.2.2.2.2.2.1⟩
 |_+8,_=>()
theorem zyz:∀n x,MU n x= .agg (Hm MU (VV n) (cA n x))
 |0,_=>rfl
 |1,_=>rfl
 |2,_=>rfl
 |3,_=>rfl
 |4,_=>rfl
 |5,_=>rfl
 |6,_=>rfl
 |7,_=>rfl
 |_+8,_=>rfl
theorem zxt:∀n h,cA n (dT n h)=h
 |0,_=>rfl
 |1,_=>rfl
 |2,_=>rfl
 |3,_=>rfl
 |4,_=>rfl
 |5,_=>rfl
 |6,_=>rfl
 |7,_=>rfl
 |_+8,_=>rfl
@[reducible] def Cu:HU:=⟨oS,PN,MU,VV,cA,dT,zyz,zxt⟩
abbrev FS:=FN Cu
noncomputable def XO(tb:List FS)(hs:List JM)(o:Option Tr)(ps:List PT)(r:RT)(xs:HP Cu.car ps)(hp:Hk Cu ps xs):Option (Gg Cu.car r):=match o with
 |some t=>Cl tb 100000 (NZ r) t hs (Ts ps xs hp) [] []
 |none=>none
theorem oB{f:Nat}{ps:List PT}{r:RT}{φ:HP Cu.car ps->Option (Gg Cu.car r)}(tb:List FS)(hs:List JM)(h:∀xs hp,XO tb hs (SL Tryz.prog CF f) ps r xs hp=φ xs)(hk:∀xs y,VX Tryz.prog CF f (Fw Cu ps xs) (FE Cu r y)=true)(xs:HP Cu.car ps)(y:Gg Cu.car r)(hp:Hk Cu ps xs)(e:φ xs=some y):Cu.Rt f (Fw Cu ps xs) (FE Cu r y):=by
 rw[<-h xs hp]at e;unfold XO at e;split at e
 ·rename_i t ht;refine JF ht (hk xs y) ?_;unfold Den;rw[<-mE ps xs hp];exact Er tb 100000 (fa:=[]) (λ_ h=>nomatch h) (λ_ h=>nomatch h) (λv hv=>aJ r hv) .nil e
 ·cases e
noncomputable def AB(f:Nat)(ps:List PT)(r:RT)(φ:HP Cu.car ps->Option (Gg Cu.car r))(tb:List FS)(hs:List JM)(h:∀xs hp,XO tb hs (SL Tryz.prog CF f) ps r xs hp=φ xs:=by intro _ _;kernel_rfl)(hk:∀xs y,VX Tryz.prog CF f (Fw Cu ps xs) (FE Cu r y)=true:=by intro _ _;kernel_rfl):FS:=
 ⟨f,ps,r,φ,λxs y hp e=>oB tb hs h hk xs y hp e,false,λh=>by cases h⟩
noncomputable def Kk(d:FS)(h:∀y,aS d.f (FE Cu d.r y)=true):FS:=
 ⟨d.f,d.ps,d.r,d.φ,d.ok,true,λ_ xs y hx e=>zt5 (d.ok xs y hx e) (h y)⟩
noncomputable def FW(f:Nat)(ps:List PT)(r:RT)(φ:HP Cu.car ps->Option (Gg Cu.car r))(ok:∀xs y,Hk Cu ps xs->φ xs=some y->Cu.Rt f (Fw Cu ps xs) (FE Cu r y)):FS:=⟨f,ps,r,φ,ok,false,λh=>by cases h⟩
end Go.Proofs.YtkpifpljpoochaaGreatDoor
end
section
namespace Go.Proofs.YtkpifpljpoochaaGreatDoor
open Go.RowKit
theorem Dr.rd{P:Program}{w:World}{ts:List TypeId}{ms:List PM}{lo:List Bool}{vs:List Value}{xs:List AV}{rf lf hs:List Nat}(h:Dr P w ts ms lo vs xs rf lf hs):lo=[]->(∀m∈ms,m= .ro)->Rd w vs xs rf/\hs=[]:=by
 induction h with
 |nil=>intro _ _;exact⟨.nil,rfl⟩
 |lent h1 _ _ _ _=>intro BO;subst BO;cases h1
 | @cons t ts ms lo v vs x xs f h rf lf hs A6 _ ih=>
  intro BO Eg;subst BO;obtain⟨h1,rfl⟩:=ih rfl λm hm=>Eg m (List.mem_of_mem_tail hm);have Kc:ms.headD .ro= .ro:=by
   cases ms with
   |nil=>rfl
   |cons m ms=>exact Eg m (by simp)
  rw[Kc]at A6;obtain⟨h2,h3⟩:Rd w [v] [x] f/\h=[]:=A6;subst h3;exact⟨by simpa using h2.app h1,rfl⟩
 |free h1 _ ih=>intro BO Eg;subst BO;obtain⟨h2,rfl⟩:=ih rfl λm hm=>Eg m (List.mem_of_mem_tail hm);exact⟨by simpa using h1.app h2,rfl⟩
theorem DA.jv{P:Program}{w:World}:∀{ts:List TypeId} {ms:List PM} {vs:List Value},vs.length=ts.length->(∀m∈ms,m= .ro)->DA P w ts ms vs [] [] []
 | [],_,vs,_,_=> .nil
 |t::ts,ms,[],h,_=>by simp at h
 |t::ts,ms,v::vs,h,Eg=>by
  refine .ro ?_ (DA.jv (by simpa using h) λm hm=>Eg m (List.mem_of_mem_tail hm));cases ms with
  |nil=>rfl
  |cons m ms=>exact Eg m (by simp)
def bX(P:Program)(sg:BR)(f np:Nat)(r:AV):Bool:=
 match P.funcs[f]?,sg f with
 |some fn,some s=>fn.body.isSome&& !(fn.name== "runtime.NumGoroutine")&&Nl P fn s r&&s.cf.all (λm=>match m with| .ro=>true|_=>false)&&fn.params.size==np&&fn.nfree==0&&(s.ft.isEmpty&&s.lo.isEmpty)&&(match(DE fn s)with| [t]=> !HM P t s.res|_=>false)
 |_,_=>false
theorem zv3{f:Nat}{xs:List AV}{r:AV}(hk:bX Tryz.prog CF f xs.length r=true)(hc:∀(w:World) (vs:List Value) (rf:List Nat),Kl.K w->Rd w vs xs rf->Calls Tryz.prog f vs.toArray w λe w'=>Mod [] w w'/\ ∃v f1,e= .returned v/\Rd w' [v] [r] f1/\ ∀b∈f1,b∈rf\/w.heap.size<=b):Cw Tryz.prog CF f xs r:=by
 unfold bX at hk;split at hk
 ·rename_i fn s hf hs;simp only[Ae,Bt,Ax,A0]at hk;obtain⟨⟨⟨⟨⟨⟨⟨h1,h2⟩,h3⟩,h4⟩,h5⟩,h6⟩,EN⟩,h7⟩:=hk;obtain⟨EN,BO⟩:s.ft=[]/\s.lo=[]:=by simpa using EN
  have Kc:∀m∈s.cf,m= .ro:=λm hm=>by
   have:=h4 m hm;split at this
   ·rfl
   ·cases this
  unfold Cw;rw[if_pos (Sp f s hs)];refine⟨s,hs,fn,hf,h1,h2,h3,by omega,by simp[EN],λw vs rf lf Bd Au hd _ B8 Ez=> ?_⟩;obtain⟨hr,rfl⟩:=Au.rd BO Kc;refine(hc w vs rf Ez.2.1 hr).mono ?_;rintro e w' ⟨hm,v,f1,rfl,hv,hb⟩;refine⟨v,rfl,⟨⟨r,[],f1,[],[],[],rfl,?_,DA.jv ?_ Kc,by simp,by simp,λb BF=>⟨by simp,?_⟩⟩,hm⟩⟩
  ·unfold JP;split at h7
   ·rename_i t ht;rw[ht];show F0 Tryz.prog w' t s.res v r f1 [];unfold F0;rw[if_neg (by rw[Bool.not_eq_true];simpa using h7)];exact⟨hv,rfl⟩
   ·cases h7
  ·rw[hr.len];simp[EN,Pe];omega
  ·rcases hb b (by simpa using BF)with h|h
   ·exact .inl h
   ·exact .inr (.inr h)
 ·cases hk
theorem Vv{f:Nat}{xs:List AV}{r:AV}(hk:bX Tryz.prog CF f xs.length r=true)(hc:∀(w:World) (vs:List Value) (rf:List Nat),Rd w vs xs rf->Calls Tryz.prog f vs.toArray w λe w'=>Mod [] w w'/\ ∃v f1,e= .returned v/\Rd w' [v] [r] f1/\ ∀b∈f1,b∈rf\/w.heap.size<=b):Cw Tryz.prog CF f xs r:=
 zv3 hk λw vs rf _ hr=>hc w vs rf hr
theorem LJ{w:World}{s:List UInt8}{vs:List Value}{xs:List AV}{f:List Nat}(h:Rd w vs (.str s::xs) f):∃(b:ByteArray) (us:List Value),vs= .string b::us/\b.data.toList=s/\b.size<=9223372036854775807/\Rd w us xs f:=by
 cases h with
 |str a h=>exact⟨_,_,rfl,rfl,a,h⟩
theorem zyB{w:World}{k:IntKind}{n:Int}{vs:List Value}{xs:List AV}{f:List Nat}(h:Rd w vs (.int k n::xs) f):∃us:List Value,vs= .int k n::us/\EV k n/\Rd w us xs f:=by
 cases h with
 |int a h=>exact⟨_,rfl,a,h⟩
theorem Ph{w:World}{vs:List Value}{f:List Nat}(h:Rd w vs [] f):vs=[]/\f=[]:=by cases h;exact⟨rfl,rfl⟩
end Go.Proofs.YtkpifpljpoochaaGreatDoor
end
section
namespace Go.Proofs
open Go.Shelf
def Tryz.dy:Go.Shelf.Ren:=⟨λ|156=>141|165=>159|166=>160|169=>161|240=>170|241=>171|276=>174|277=>175|n=>n,λ|31=>23|9=>9|3=>3|4=>4|0=>0|20=>20|72=>169|76=>173|70=>167|37=>22|75=>172|127=>180|164=>183|5=>5|80=>112|n=>n,λ|n=>n⟩
theorem Tryz.gr:Go.Proofs.Lays.n156 Tryz.prog Tryz.dy:={
 mixed:=by kernel_rfl
 f156:=Tryz.func141.trans (congrArg some (by kernel_rfl))
 f165:=Tryz.func159.trans (congrArg some (by kernel_rfl))
 f166:=Tryz.func160.trans (congrArg some (by kernel_rfl))
 f169:=Tryz.func161.trans (congrArg some (by kernel_rfl))
 f240:=Tryz.func170.trans (congrArg some (by kernel_rfl))
 f241:=Tryz.func171.trans (congrArg some (by kernel_rfl))
 f276:=Tryz.func174.trans (congrArg some (by kernel_rfl))
 f277:=Tryz.func175.trans (congrArg some (by kernel_rfl))
 t0:=Tryz.underlying0
 a0:=Tryz.isAgg0
 z0:=Tryz.sizeOf0
 v0:=Tryz.zeroValue0
 t3:=Tryz.underlying3
 a3:=Tryz.isAgg3
 z3:=Tryz.sizeOf3
 v3:=Tryz.zeroValue3
 t4:=Tryz.underlying4
 a4:=Tryz.isAgg4
 z4:=Tryz.sizeOf4
 v4:=Tryz.zeroValue4
 t9:=Tryz.underlying9
 a9:=Tryz.isAgg9
 z9:=Tryz.sizeOf9
 v9:=Tryz.zeroValue9
 t20:=Tryz.underlying20
 a20:=Tryz.isAgg20
 z20:=Tryz.sizeOf20
 v20:=Tryz.zeroValue20
 t31:=Tryz.underlying23
 a31:=Tryz.isAgg23
 z31:=Tryz.sizeOf23
 v31:=Tryz.zeroValue23
 t37:=Tryz.underlying22
 a37:=Tryz.isAgg22
 z37:=Tryz.sizeOf22
 v37:=Tryz.zeroValue22
 t70:=Tryz.underlying167
 a70:=Tryz.isAgg167
 z70:=Tryz.sizeOf167
 v70:=Tryz.zeroValue167
 t72:=Tryz.underlying169
 a72:=Tryz.isAgg169
 z72:=Tryz.sizeOf169
 v72:=Tryz.zeroValue169
 t75:=Tryz.underlying172
 a75:=Tryz.isAgg172
 z75:=Tryz.sizeOf172
 v75:=Tryz.zeroValue172
 t76:=Tryz.underlying173
 a76:=Tryz.isAgg173
 z76:=Tryz.sizeOf173
 v76:=Tryz.zeroValue173
 t127:=Tryz.underlying180
 a127:=Tryz.isAgg180
 z127:=Tryz.sizeOf180
 v127:=Tryz.zeroValue180
 t164:=Tryz.underlying183
 a164:=Tryz.isAgg183
 z164:=Tryz.sizeOf183
 v164:=Tryz.zeroValue183}
theorem Tryz.da:Builder.Extra Tryz.prog Tryz.dy:={
 sizeBuilder:=by kernel_rfl
 liesBuilder:=by kernel_rfl
 t5:=Tryz.underlying5
 a5:=Tryz.isAgg5
 z5:=Tryz.sizeOf5
 v5:=Tryz.zeroValue5
 infoByte:=by kernel_rfl
 cellsByte:=by kernel_rfl
 sizeByte:=by kernel_rfl
 neB5:=by decide}
open Go.RowKit in
theorem Tryz.strings_Join_none(a:Option Addr)(c:Nat)(sep:ByteArray)(w:World):
  Calls Tryz.prog 141 #[.slice a 0 c, .string sep] w λe w'=>e= .returned (.string ⟨#[]⟩)/\w'=w:=Any.strings_Join_none Tryz.gr Tryz.da a c sep w
open Go.RowKit in
theorem Tryz.strings_Join(bk o c:Nat)(xs:List ByteArray)(sep:ByteArray)(w:World)(Mk:∀(j:Nat) x,xs[j]?=some x->w.cell? ⟨bk,o+j,none⟩=some (.string x))(Mi:bk<w.heap.size)(hN:xs.length<=140737488355328)(Io:xs.length<=c)(hlen:(Lib.join (xs.map (·.data.toList)) sep.data.toList).length<=140737488355328):
  Calls Tryz.prog 141 #[.slice (some ⟨bk,o,none⟩) xs.length c, .string sep] w λe w'=>e= .returned (.string ⟨(Lib.join (xs.map (·.data.toList)) sep.data.toList).toArray⟩)/\Below w.heap.size w w':=Any.strings_Join Tryz.gr Tryz.da bk o c xs sep w Mk Mi hN Io hlen
def Tryz.jz:Go.Shelf.Ren:=⟨λ|137=>106|217=>137|266=>154|n=>n,λ|9=>9|5=>5|3=>3|n=>n,λ|n=>n⟩
def Tryz.fq:Go.Shelf.Ren:=⟨λ|217=>137|266=>154|n=>n,λ|9=>9|5=>5|3=>3|n=>n,λ|n=>n⟩
theorem Tryz.jm:Go.Proofs.Lays.n217 Tryz.prog Tryz.fq:={
 mixed:=by kernel_rfl
 f217:=Tryz.func137.trans (congrArg some (by kernel_rfl))
 f266:=Tryz.func154.trans (congrArg some (by kernel_rfl))
 t3:=Tryz.underlying3
 a3:=Tryz.isAgg3
 z3:=Tryz.sizeOf3
 v3:=Tryz.zeroValue3
 t5:=Tryz.underlying5
 a5:=Tryz.isAgg5
 z5:=Tryz.sizeOf5
 v5:=Tryz.zeroValue5
 t9:=Tryz.underlying9
 a9:=Tryz.isAgg9
 z9:=Tryz.sizeOf9
 v9:=Tryz.zeroValue9}
open Go.RowKit Go.Lib in
theorem Tryz.stringslite_IndexByte(s:ByteArray)(c:Int)(w:World):
  Calls Tryz.prog 137 #[.string s, .int .u8 c] w λe w'=>e= .returned (.int .i64 (Lib.indexByte s.data.toList c.toNat.toUInt8))/\w'=w:=Any.stringslite_IndexByte Tryz.jm s c w
def Tryz.fw:Go.Shelf.Ren:=⟨λ|219=>148|217=>137|225=>163|224=>164|267=>165|266=>154|314=>172|n=>n,λ|9=>9|3=>3|4=>4|5=>5|46=>124|146=>181|51=>150|n=>n,λ|1=>0|n=>n⟩
theorem Tryz.ji:Go.Proofs.Lays.n219 Tryz.prog Tryz.fw:={
 mixed:=by kernel_rfl
 f217:=Tryz.func137.trans (congrArg some (by kernel_rfl))
 f219:=Tryz.func148.trans (congrArg some (by kernel_rfl))
 f224:=Tryz.func164.trans (congrArg some (by kernel_rfl))
 f225:=Tryz.func163.trans (congrArg some (by kernel_rfl))
 f266:=Tryz.func154.trans (congrArg some (by kernel_rfl))
 f267:=Tryz.func165.trans (congrArg some (by kernel_rfl))
 f314:=Tryz.func172.trans (congrArg some (by kernel_rfl))
 t3:=Tryz.underlying3
 a3:=Tryz.isAgg3
 z3:=Tryz.sizeOf3
 v3:=Tryz.zeroValue3
 t4:=Tryz.underlying4
 a4:=Tryz.isAgg4
 z4:=Tryz.sizeOf4
 v4:=Tryz.zeroValue4
 t5:=Tryz.underlying5
 a5:=Tryz.isAgg5
 z5:=Tryz.sizeOf5
 v5:=Tryz.zeroValue5
 t9:=Tryz.underlying9
 a9:=Tryz.isAgg9
 z9:=Tryz.sizeOf9
 v9:=Tryz.zeroValue9
 t46:=Tryz.underlying124
 a46:=Tryz.isAgg124
 z46:=Tryz.sizeOf124
 v46:=Tryz.zeroValue124
 t51:=Tryz.underlying150
 a51:=Tryz.isAgg150
 z51:=Tryz.sizeOf150
 v51:=Tryz.zeroValue150
 t146:=Tryz.underlying181
 a146:=Tryz.isAgg181
 z146:=Tryz.sizeOf181
 v146:=Tryz.zeroValue181
 g1:=by kernel_rfl}
open Go.RowKit Go.Lib in
theorem Tryz.stringslite_Index_one(s:ByteArray)(c:UInt8)(w:World):
  Calls Tryz.prog 148 #[.string s, .string ⟨#[c]⟩] w λe w'=>e= .returned (.int .i64 (Lib.indexByte s.data.toList c))/\w'=w:=Any.stringslite_Index_one Tryz.ji s c w
def Tryz.ga:Go.Shelf.Ren:=⟨λ|138=>156|195=>167|218=>169|143=>157|219=>148|217=>137|225=>163|224=>164|267=>165|266=>154|314=>172|n=>n,λ|9=>9|3=>3|4=>4|5=>5|0=>0|46=>124|146=>181|51=>150|n=>n,λ|1=>0|n=>n⟩
theorem Tryz.jq:Go.Proofs.Lays.n138 Tryz.prog Tryz.ga:={
 mixed:=by kernel_rfl
 f138:=Tryz.func156.trans (congrArg some (by kernel_rfl))
 f143:=Tryz.func157.trans (congrArg some (by kernel_rfl))
 f195:=Tryz.func167.trans (congrArg some (by kernel_rfl))
 f217:=Tryz.func137.trans (congrArg some (by kernel_rfl))
 f218:=Tryz.func169.trans (congrArg some (by kernel_rfl))
 f219:=Tryz.func148.trans (congrArg some (by kernel_rfl))
 f224:=Tryz.func164.trans (congrArg some (by kernel_rfl))
 f225:=Tryz.func163.trans (congrArg some (by kernel_rfl))
 f266:=Tryz.func154.trans (congrArg some (by kernel_rfl))
 f267:=Tryz.func165.trans (congrArg some (by kernel_rfl))
 f314:=Tryz.func172.trans (congrArg some (by kernel_rfl))
 t0:=Tryz.underlying0
 a0:=Tryz.isAgg0
 z0:=Tryz.sizeOf0
 v0:=Tryz.zeroValue0
 t3:=Tryz.underlying3
 a3:=Tryz.isAgg3
 z3:=Tryz.sizeOf3
 v3:=Tryz.zeroValue3
 t4:=Tryz.underlying4
 a4:=Tryz.isAgg4
 z4:=Tryz.sizeOf4
 v4:=Tryz.zeroValue4
 t5:=Tryz.underlying5
 a5:=Tryz.isAgg5
 z5:=Tryz.sizeOf5
 v5:=Tryz.zeroValue5
 t9:=Tryz.underlying9
 a9:=Tryz.isAgg9
 z9:=Tryz.sizeOf9
 v9:=Tryz.zeroValue9
 t46:=Tryz.underlying124
 a46:=Tryz.isAgg124
 z46:=Tryz.sizeOf124
 v46:=Tryz.zeroValue124
 t51:=Tryz.underlying150
 a51:=Tryz.isAgg150
 z51:=Tryz.sizeOf150
 v51:=Tryz.zeroValue150
 t146:=Tryz.underlying181
 a146:=Tryz.isAgg181
 z146:=Tryz.sizeOf181
 v146:=Tryz.zeroValue181
 g1:=by kernel_rfl}
open Go.RowKit Go.Lib in
theorem Tryz.strings_Count_one(s:ByteArray)(c:UInt8)(w:World):
  Calls Tryz.prog 156 #[.string s, .string ⟨#[c]⟩] w λe w'=>e= .returned (.int .i64 (Lib.countByte s.data.toList c))/\w'=w:=Any.strings_Count_one Tryz.jq s c w
end Go.Proofs
end
section
namespace Go.Proofs.YtkpifpljpoochaaGreatDoor
open Go.RowKit
set_option maxRecDepth 100000
theorem YG:∀(l:List UInt8) (c:UInt8), -1<=Lib.indexByte l c/\Lib.indexByte l c<l.length\/Lib.indexByte l c= -1
 | [],_=> .inr rfl
 |b::l,c=>by
  unfold Lib.indexByte;rcases YG l c with h|h
  ·split
   ·left;simp
   ·split
    ·exact .inr rfl
    ·left;rw[Ao];omega
  ·rw[h];split
   ·left;simp
   ·right;rfl
theorem ZP{n:Int}(h1: -9223372036854775808<=n)(h2:n<=9223372036854775807):EV .i64 n:=Ch h1 h2
theorem nX{b:ByteArray}{c:UInt8}(h:b.data.toList=[c]):b=⟨#[c]⟩:=by
 cases b with
 |mk d=>cases d with
  |mk l=>simp at h;rw[h]
def Tu(s:List UInt8)(c:Int):Option Int:=some (Lib.indexByte s c.toNat.toUInt8)
theorem tH(a0:List UInt8)(a1 r:Int)(h:Tu a0 a1=some r):Cw Tryz.prog CF 137 [.str a0, .int .u8 a1] (.int .i64 r):=Vv (by kernel_rfl) λw vs rf hr=>by
 obtain⟨b,us,rfl,rfl,hb,hr⟩:=LJ hr;obtain⟨us1,rfl,_,hr⟩:=zyB hr;obtain⟨rfl,rfl⟩:=Ph hr;refine(Tryz.stringslite_IndexByte b a1 w).mono ?_;rintro e w' ⟨rfl,rfl⟩;cases h;have hl:b.data.toList.length<=9223372036854775807:=by rw[Cc];exact hb
 exact⟨Mod.refl [] _,_,[],rfl, .int (by rcases YG b.data.toList a1.toNat.toUInt8 with h|h<;>exact ZP (by omega) (by omega)) .nil,by simp⟩
def N6(s sub:List UInt8):Option Int:=match sub with| [c]=>some (Lib.indexByte s c)|_=>none
theorem tO(a0 a1:List UInt8)(r:Int)(h:N6 a0 a1=some r):Cw Tryz.prog CF 148 [.str a0, .str a1] (.int .i64 r):=Vv (by kernel_rfl) λw vs rf hr=>by
 obtain⟨b,us,rfl,rfl,hb,hr⟩:=LJ hr;obtain⟨b1,us1,rfl,h1,_,hr⟩:=LJ hr;obtain⟨rfl,rfl⟩:=Ph hr
 match a1,h,h1 with
 | [c],h,h1=>
  have:=nX h1;subst this;refine(Tryz.stringslite_Index_one b c w).mono ?_;rintro e w' ⟨rfl,rfl⟩;cases h;have hl:b.data.toList.length<=9223372036854775807:=by rw[Cc];exact hb
  exact⟨Mod.refl [] _,_,[],rfl, .int (by rcases YG b.data.toList c with h|h<;>exact ZP (by omega) (by omega)) .nil,by simp⟩
 | [],h,_=>cases h
 |_::_::_,h,_=>cases h
def Ua(s sub:List UInt8):Option Int:=match sub with| [c]=>some (Lib.countByte s c:Int)|_=>none
theorem wJ(a0 a1:List UInt8)(r:Int)(h:Ua a0 a1=some r):Cw Tryz.prog CF 156 [.str a0, .str a1] (.int .i64 r):=Vv (by kernel_rfl) λw vs rf hr=>by
 obtain⟨b,us,rfl,rfl,hb,hr⟩:=LJ hr;obtain⟨b1,us1,rfl,h1,_,hr⟩:=LJ hr;obtain⟨rfl,rfl⟩:=Ph hr
 match a1,h,h1 with
 | [c],h,h1=>
  have:=nX h1;subst this;refine(Tryz.strings_Count_one b c w).mono ?_;rintro e w' ⟨rfl,rfl⟩;cases h;have hl:b.data.toList.length<=9223372036854775807:=by rw[Cc];exact hb
  have:Lib.countByte b.data.toList c<=b.data.toList.length:=List.count_le_length;exact⟨Mod.refl [] _,_,[],rfl, .int (ZP (by omega) (by omega)) .nil,by simp⟩
 | [],h,_=>cases h
 |_::_::_,h,_=>cases h
def Yn(_:List UInt8)(_:Int):Option (List (List UInt8)):=none
theorem vE(a0:List UInt8)(a1:Int)(r:List (List UInt8))(h:Yn a0 a1=some r):Cw Tryz.prog CF 155 [.str a0, .int .i64 a1] (.sl (r.map Jh)):=by cases h
noncomputable def UL(xs:List (List UInt8))(sep:List UInt8):Option (List UInt8):=req (xs.length<=140737488355328/\(Lib.join xs sep).length<=140737488355328) (some (Lib.join xs sep))
theorem fQ{w:World}:∀{cs:List Value} {xs:List (List UInt8)} {f:List Nat},Rd w cs (AA (xs.map Jh)) f-> ∃bs:List ByteArray,cs=bs.map Value.string/\bs.map (·.data.toList)=xs
 |cs,[],f,h=>by obtain⟨rfl,_⟩:=Ph (by simpa[AA]using h);exact⟨[],rfl,rfl⟩
 |cs,x::xs,f,h=>by
  have h':Rd w cs (.str x::AA (xs.map Jh)) f:=by simpa[AA]using h
  obtain⟨b,us,rfl,rfl,_,h2⟩:=LJ h';obtain⟨bs,rfl,rfl⟩:=fQ h2;exact⟨b::bs,rfl,rfl⟩
theorem wY(a0:List (List UInt8))(a1 r:List UInt8)(h:UL a0 a1=some r):Cw Tryz.prog CF 141 [.sl (a0.map Jh), .str a1] (.str r):=Vv (by kernel_rfl) λw vs rf hr=>by
 obtain⟨⟨F6,FA⟩,h⟩:=GL h;cases h;generalize hx:a0.map Jh=ys at hr;cases hr with
 |di hr=>
  obtain⟨b1,us1,rfl,rfl,_,hr⟩:=LJ hr;obtain⟨rfl,rfl⟩:=Ph hr;have:a0=[]:=by simpa using hx
  subst this;refine(Tryz.strings_Join_none _ _ b1 w).mono ?_;rintro e w' ⟨rfl,rfl⟩;exact⟨Mod.refl [] _,_,[],rfl, .str (by simp[ByteArray.size]) .nil,by simp⟩
 |en hb h1 h2 h3 h4 h5 h6 Gi h7 hr=>
  rename_i bk o n c cs C t fz sz f1 vs f;obtain⟨b1,us1,rfl,rfl,_,hr⟩:=LJ hr;obtain⟨rfl,rfl⟩:=Ph hr;subst hx;obtain⟨bs,rfl,rfl⟩:=fQ h7;have hn:n=bs.length:=by simpa using h3.symm
  subst hn;have Mi:bk<w.heap.size:=Fv hb;refine(Tryz.strings_Join bk o c bs b1 w (λj x hx=> ?_) Mi (by simpa using F6) h2.2 FA).mono ?_
  ·have:=h6 j (.string x) (by simp[hx]);rw[D5 hb];exact this
  ·rintro e w' ⟨rfl,Wk⟩;exact⟨.ic Wk (Ay _),_,[],rfl, .str (by simp[ByteArray.size];omega) .nil,by simp⟩
def PV(w:World)(el:TypeId)(k:Nat)(g cap:Nat)(C:Array Value)(n:Nat)(cs:List Value):Prop:=
 n<=cap/\cap<=maxLen/\w.heap[g]?=some (.cells C el (0,0))/\C.size=cap*k/\cs=C.toList.take (n*k)
theorem PV.cell{w:World}{el:TypeId}{k g cap:Nat}{C:Array Value}{n:Nat}{cs:List Value}(h:PV w el k g cap C n cs)(off j:Nat)(v:Value)(hj:(cs.drop off)[j]?=some v):w.cell? ((⟨g,off,none⟩:Addr).add j)=some v:=by
 obtain⟨_,_,h3,_,h5⟩:=h;rw[Addr.add_lit,D5 h3];rw[List.getElem?_drop,h5,List.getElem?_take]at hj;split at hj
 ·simpa using hj
 ·cases hj
theorem PV.len{w:World}{el:TypeId}{k g cap:Nat}{C:Array Value}{n:Nat}{cs:List Value}(h:PV w el k g cap C n cs):cs.length=n*k:=by obtain⟨h1,_,_,h4,h5⟩:=h;have:=BB k h1;rw[h5,A1,Cc];omega
theorem two{α:Type}(zs cs vs:List α)(i m n:Nat)(cur:List α)(Wr:cur=cs.take i++zs)(AF:cs.length=n)(hi:i<=n)(hv:vs.length=m)(hz:n+m-i<=zs.length):
  let c1:=cur.take i++vs++cur.drop (i+vs.length)
  (c1.take (i+m)++cs.drop i++c1.drop (i+m+(cs.drop i).length)).take (n+m)=cs.take i++vs++cs.drop i:=by
 have ht:(cs.take i).length=i:=by rw[A1];omega
 intro c1;have e1:c1=cs.take i++vs++cur.drop (i+vs.length):=by show cur.take i++vs++cur.drop (i+vs.length)=_;rw[Wr];congr 2;rw[List.take_append_of_le_length (by omega),List.take_take,Nat.min_self]
 have e2:c1.take (i+m)=cs.take i++vs:=by
  have l2:(cs.take i++vs).length=i+m:=by rw[Ap,ht,hv]
  rw[e1,<-l2,List.take_left]
 rw[e2];have l1:(cs.take i++vs++cs.drop i).length=n+m:=by simp only[Ap,ht,hv,Dp,AF];omega
 rw[<-l1,List.take_left]
theorem CQ.mb{w:World}{el K:Nat}{v:Value}{x:AV}{top:List Nat}(h:CQ w el K v x top []):∃xs cs,x= .sl xs/\0<K/\(∀y∈xs,y.cells.length=K)/\cs.length=xs.length*K/\Rd w cs (AA xs) []/\(∀u∈cs,u.oneCell'=true)/\
  ((xs=[]/\top=[]/\ ∃q,v= .slice q 0 0)\/ ∃g cap C,v= .slice (some ⟨g,0,none⟩) xs.length cap/\PV w el K g cap C xs.length cs/\top=[g]):=by
 obtain⟨xs,rfl,h2,h3,⟨rfl,⟨a,hv⟩,rfl,_⟩|⟨g,cap,C,rfl,h6,h7,h8,h9,rfl,EM,Ea⟩⟩:=h
 ·exact⟨[],[],rfl,h3,h2,by simp,by simpa[AA]using Rd.nil,by simp, .inl ⟨rfl,rfl,a,hv⟩⟩
 ·exact⟨xs,_,rfl,h3,h2,(PV.len ⟨h6,h7,h8,h9,rfl⟩),Ea,EM, .inr ⟨g,cap,C,rfl,⟨h6,h7,h8,h9,rfl⟩,rfl⟩⟩
theorem zuZ{P:Program}{w:World}{t el:TypeId}{v:Value}{x:AV}{rf hs:List Nat}(ha:An P t=false)(hl:A5 P t=[t])(he:Da P t=some el)(hf:B1 P el=true)(h:Ny P w t [true] v x rf hs):rf=[]/\CQ w el (P.cellsOf el) v x hs []:=by
 obtain⟨us,ys,h1,h2⟩:=h;rw[ha]at h1;simp only[BX,if_false]at h1;obtain⟨rfl,rfl⟩:=h1;rw[hl]at h2;cases h2 with
 |own q1 q2 q3 q4 q5=>
  cases q5;rw[he]at q2;cases q2;rcases q3 with⟨_,rfl⟩|⟨h,_⟩
  ·exact⟨rfl,by simpa using q4⟩
  ·rw[hf]at h;cases h
 |deep q1 q2 q3=>rw[he]at q2;cases q2;rw[hf]at q3;cases q3
 |rd q1=>have:=q1 rfl;rw[he]at this;cases this
class oQ(P:Program)(el K:Nat)(st it ov:outParam Nat):Prop where
 u:P.underlying st=some (.slice el)
 v:P.underlying it=some (.int .i64)
 i:∃i z,P.info? el=some i/\i.size=K/\i.zero=some z/\z.cells.size=K/\i.bytes<=1000/\0<K
 o:∃fn bt,P.funcs[ov]?=some fn/\(fn.name== "runtime.NumGoroutine")=false/\fn.body.isNone=true/\Extern.findNext fn=none/\Extern.find fn=some (Extern.SlicesOverlaps.overlaps #[st,st] #[bt])
end Go.Proofs.YtkpifpljpoochaaGreatDoor
end
section
namespace Go.Proofs.YtkpifpljpoochaaGreatDoor
open Go.RowKit Go.Sort
def DS{α:Type}(av:α->AV)(x:α):List Value:=(av x).cells.map AV.val
theorem zyV{w:World}:∀{cs:List Value} {ys:List AV} {f:List Nat},Rd w cs ys f->(∀y∈ys,y.scalar=true)->cs=ys.map AV.val:=by
 intro cs ys f h
 induction h with
 |nil=>intro _;rfl
 |int _ _ ih=>intro hy;rw[ih λy m=>hy y (by simp[m])];rfl
 |bool _ ih=>intro hy;rw[ih λy m=>hy y (by simp[m])];rfl
 |str _ _ ih=>intro hy;rw[ih λy m=>hy y (by simp[m])];rfl
 |_=>intro hy;first|(have:=hy _ (List.mem_cons_self ..);simp[AV.scalar]at this)
section
variable {α:Type} {av:α->AV} {k:Nat}
theorem kU(DM:∀x,∀y∈(av x).cells,y.scalar=true){w:World}:∀{xs:List α} {cs:List Value},Rd w cs (AA (xs.map av)) []->cs=xs.flatMap (DS av)/\ ∀x∈xs,Rd w (DS av x) (av x).cells []
 | [],cs,h=>by have:AA (List.map av [])=[]:=rfl;rw[this]at h;cases h;exact⟨rfl,by simp⟩
 |x::xs,cs,h=>by
  have e:AA ((x::xs).map av)=(av x).cells++AA (xs.map av):=by simp[AA]
  rw[e]at h;have hl:=h.len;have e2:cs=cs.take (av x).cells.length++cs.drop (av x).cells.length:=(BV _ _).symm;rw[e2]at h;obtain⟨f1,f2,hf,h1,h2⟩:=Rd.df (by rw[A1,hl];simp) h;obtain⟨rfl,rfl⟩:f1=[]/\f2=[]:=by simpa using hf.symm
  obtain⟨g1,g2⟩:=kU DM h2;have g3:=zyV h1 (DM x);refine⟨by rw[e2,g3,g1];simp[DS],λy hy=> ?_⟩;rcases Ad.1 hy with rfl|hy
  ·unfold DS;rw[<-g3];exact h1
  ·exact g2 y hy
theorem lO{w:World}:∀{xs:List α},(∀x∈xs,Rd w (DS av x) (av x).cells [])->Rd w (xs.flatMap (DS av)) (AA (xs.map av)) []
 | [],_=>by simpa[AA]using Rd.nil
 |x::xs,h=>by
  have e:AA ((x::xs).map av)=(av x).cells++AA (xs.map av):=by simp[AA]
  rw[e,List.flatMap_cons];exact(h x (by simp)).app (lO λy hy=>h y (by simp[hy]))
variable [Inhabited α]
omit [Inhabited α]in
theorem iD{j n k:Nat}(h:j<n*k):0<k:=by
 cases k with
 |zero=>simp at h
 |succ k=>omega
omit [Inhabited α]in
theorem lK{enc:α->List Value}(hk:∀x,(enc x).length=k):∀(l:List α),(l.flatMap enc).length=l.length*k
 | []=>by simp
 |x::l=>by simp only[List.flatMap_cons,Ap,hk,lK hk l,Ao,Nat.add_mul];omega
theorem kX{enc:α->List Value}(hk:∀x,(enc x).length=k):∀(l:List α) (j:Nat),j<l.length*k->(l.flatMap enc)[j]?=(enc l[j/k]!)[j % k]?
 | [],j,h=>by simp at h
 |x::l,j,h=>by
  have k0:0<k:=iD h;rw[List.flatMap_cons];by_cases hj:j<k
  ·rw[List.getElem?_append_left (by rw[hk];exact hj),Nat.div_eq_of_lt hj,Nat.mod_eq_of_lt hj];rfl
  ·rw[List.getElem?_append_right (by rw[hk];omega),hk,kX hk l (j-k) (by simp only[Ao,Nat.add_mul]at h;omega)];obtain⟨i,rfl⟩:∃i,j=i+k:=⟨j-k,by omega⟩
   rw[Nat.add_sub_cancel,Nat.add_div_right _ k0,Nat.add_mod_right];rfl
theorem iU{enc:α->List Value}(hk:∀x,(enc x).length=k)(d:Array α):(flatK enc k d).toList=d.toList.flatMap enc:=by
 apply List.ext_getElem?;intro j;by_cases hj:j<d.size*k
 ·have k0:0<k:=iD hj;have hd:j/k<d.size:=Nat.div_lt_of_lt_mul (by rw[Nat.mul_comm];exact hj);have hm:j % k<k:=Nat.mod_lt _ k0;rw[kX hk _ _ (by simpa using hj)];have h1:=get_flatK enc k d j hj;rw[Array.getElem?_toList,Array.getElem?_eq_getElem (by simpa using hj),<-getElem!_pos (flatK enc k d) j (by simpa using hj),h1];rw[show(d.toList[j/k]!)=(d[j/k]!) by simp[hd],Bl (by rw[hk];exact hm),getElem!_pos _ _ (by rw[hk];exact hm)]
 ·rw[List.getElem?_eq_none (by simpa using hj),List.getElem?_eq_none (by rw[lK hk];simpa using hj)]
theorem xI(F C:Array Value)(h:F.size<=C.size):(Go.Sort.putCells id 0 F C).toList.take F.size=F.toList:=by
 apply List.ext_getElem?;intro j;by_cases hj:j<F.size
 ·have hc:j<C.size:=by omega
  simp[Go.Sort.putCells,List.getElem?_take,hj,hc]
 ·rw[List.getElem?_eq_none (by simp;omega),List.getElem?_eq_none (by simpa using hj)]
theorem yU{enc:α->List Value}{w:World}{g m:Nat}{C:Array Value}{el:TypeId}{d:Array α}{os:Array Obj}(h:w.heap[g]?=some (.cells C el (0,0))):
  (sortWorldK enc k w g 0 m d os).heap[g]?=some (.cells (Go.Sort.putCells id 0 (flatK enc k d) C) el (0,0)):=by
 have hg:=Fv h;show((w.heap.modify g (onCells (Go.Sort.putCells id 0 (flatK enc k d))))++os)[g]?=_;rw[Array.getElem?_append_left (by simpa using hg),Array.getElem?_modify,if_pos rfl,h];rfl
theorem ztj{enc:α->List Value}{w:World}{g m:Nat}{d:Array α}{os:Array Obj}:Mod [g] w (sortWorldK enc k w g 0 m d os):=by
 refine⟨rfl,rfl,rfl,?_,λj hj hn=> ?_⟩
 ·show w.heap.size<=((w.heap.modify g (onCells (Go.Sort.putCells id 0 (flatK enc k d))))++os).size;simp
 ·show((w.heap.modify g (onCells (Go.Sort.putCells id 0 (flatK enc k d))))++os)[j]?=_;rw[Array.getElem?_append_left (by simpa using hj),Array.getElem?_modify,if_neg (by simpa[eq_comm]using hn)]
end
def oG(P:Program)(sg:BR)(f:Nat)(t ft el K:Nat):Bool:=
 match P.funcs[f]?,sg f with
 |some fn,some s=>(match s.cf,s.res,s.ft,s.lo with
  | [.mu [true], .ro],[],[],[]=>true
  |_,_,_,_=>false)&&fn.body.isSome&& !(fn.name== "runtime.NumGoroutine")&&Ew fn s==[t,ft]&&(DE fn s)==[]&&fn.nfree==0&& !An P t&&A5 P t==[t]&&Da P t==some el&&B1 P el&&P.cellsOf el==K&&fn.params.size==2
 |_,_=>false
theorem zv0{f g t ft el k:Nat}{α:Type}[Inhabited α]{av:α->AV}(S:Array α->Array α)(hk:oG Tryz.prog CF f t ft el k=true)
  (DM:∀x,∀y∈(av x).cells,y.scalar=true) (hlen:∀x,(av x).cells.length=k) (pD:∀d:Array α,(S d).toList.Perm d.toList)
  (hS:∀(blk cap:Nat) (d:Array α) (w:World),HoldsK (DS av) k w blk 0 d->blk<w.heap.size->d.size<4611686018427387904->
   Calls Tryz.prog f #[.slice (some ⟨blk,0,none⟩) d.size cap, .func (.func g) #[] #[]] w λe w'=>e= .returned (.tuple #[])/\ ∃n os,w'=sortWorldK (DS av) k w blk 0 n (S d) os)
  (h0:∀p cap fv w,Calls Tryz.prog f #[.slice p 0 cap,fv] w λe w'=>e= .returned (.tuple #[])/\w'=w)
  (xs:List α) (hb:xs.length<4611686018427387904):Cw Tryz.prog CF f [.sl (xs.map av), .fn g []] (.tup [.tup [], .sl ((S xs.toArray).toList.map av)]):=by
 unfold oG at hk;split at hk
 ·rename_i fn s hf hs;simp only[Ae,Bt,Ax]at hk;obtain⟨⟨⟨⟨⟨⟨⟨⟨⟨⟨⟨g1,g2⟩,g3⟩,g4⟩,g5⟩,g6⟩,g7⟩,g8⟩,g9⟩,g10⟩,g11⟩,g13⟩:=hk;obtain⟨hm,hr,EN,BO⟩:s.cf=[.mu [true], .ro]/\s.res=[]/\s.ft=[]/\s.lo=[]:=by
   split at g1
   ·rename_i a b c d;exact⟨a,b,c,d⟩
   ·cases g1
  have BH:∀x,(DS av x).length=k:=λx=>by simp[DS,hlen]
  have hp:=pD xs.toArray;have GV:(S xs.toArray).toList.length=xs.length:=by simpa using hp.length_eq
  unfold Cw;rw[if_pos (Sp f s hs)];refine⟨s,hs,fn,hf,g2,g3,?_,by simp[g6,g13],by simp[EN],λw vs rf lf Bd Au hd _ B8 Ez=> ?_⟩
  ·unfold Nl SF;rw[g4,g5,EN,AJ,hm];simp[Bm,Sk,Hj]
  rw[g4,EN,AJ,hm,BO]at Au;cases Au with
  |lent h _ _ _=>cases h
  | @cons _ _ _ _ v1 vs1 _ _ f1 k1 rf1 lf1 BA a1 Au=>
   cases Au with
   |lent h _ _ _=>cases h
   | @cons _ _ _ _ v2 vs2 _ _ f2 k2 rf2 lf2 AY a2 Au=>
    cases Au;obtain⟨rfl,r1⟩:=zuZ g7 g8 g9 g10 a1;obtain⟨a2,rfl⟩:Rd w [v2] [AV.fn g []] f2/\k2=[]:=a2;obtain⟨rfl,rfl⟩:v2= .func (.func g) #[] #[]/\f2=[]:=by
     cases a2 with
     |fn b1 b2=>cases b1;cases b2;exact⟨rfl,rfl⟩
    obtain⟨xs',cs,e1,p0,p1,p2,p3,p4,p5⟩:=r1.mb;cases e1;rw[g11]at p0 p1 p2 p5;have G2:(xs.map av).length=xs.length:=by simp
    rcases p5 with⟨ER,rfl,q,rfl⟩|⟨b,cap,C,rfl,⟨z1,z2,z3,z4,z5⟩,rfl⟩
    ·have B9:xs=[]:=by simpa using ER
     subst B9;have pC:(S #[]).toList=[]:=by simpa using GV
     refine(h0 q 0 _ w).mono ?_;rintro e w' ⟨rfl,rfl⟩;refine⟨_,rfl,⟨⟨.tup [],[.sl []],[],[],[],[],by simp[pC],?_,?_,by simp,by simp,by simp⟩,Mod.refl _ _⟩⟩
     ·rw[g5];exact⟨[],[],rfl,rfl, .nil⟩
     ·rw[g4,EN,AJ,hm];have FM:EW Tryz.prog w' (A5 Tryz.prog t) [true] [.slice q 0 0] [.sl []] [] []:=by
       rw[g8];have:=EW.own (P:=Tryz.prog) (w:=w') (t:=t) (ts:=[]) (fl:=[true]) (us:=[]) (ys:=[]) rfl g9 (.inl ⟨g10,rfl⟩) (y:= .sl []) (u:= .slice q 0 0) (top:=[]) (by rw[g11];exact⟨[],rfl,by simp,p0, .inl ⟨rfl,⟨q,rfl⟩,rfl,rfl⟩⟩) .nil;simpa using this
      have:=DA.mu (P:=Tryz.prog) (w:=w') (t:=t) (ts:=[ft]) (ms:=[.mu [true], .ro]) (own:=[true]) (v:= .slice q 0 0) (vs:=[.func (.func g) #[] #[]]) (us:=[.slice q 0 0]) (ys:=[.sl []]) (y:= .sl []) (bs:=[]) (f:=[]) (o1:=[]) (o:=[]) rfl (by rw[g7];simp) FM (.ro rfl .nil);simpa using this
    ·obtain⟨q1,q2⟩:=kU DM p3;have Mj:=Fv z3;have B2:∀o,w.cell? ⟨b,o,none⟩=C[o]?:=Z2 z3;have WB:(flatK (DS av) k xs.toArray).toList=xs.flatMap (DS av):=by rw[iU BH]
     have hmul:=BB k z1;rw[G2]at z1 z5 hmul;have hH:HoldsK (DS av) k w b 0 xs.toArray:=by
      intro j hj;rw[size_flatK]at hj;have IB:j<xs.length*k:=by simpa using hj
      refine⟨?_,fF z3⟩;rw[B2,Nat.zero_add];have e1:C[j]?=cs[j]?:=by rw[z5,List.getElem?_take,if_pos IB];simp
      rw[e1,q1,<-WB,Array.getElem?_toList,Array.getElem?_eq_getElem (by simpa using hj),<-getElem!_pos (flatK (DS av) k xs.toArray) j (by simpa using hj)];rfl
     have hc:=hS b cap xs.toArray w hH Mj (by simpa using hb);rw[show xs.toArray.size=(xs.map av).length by simp]at hc;refine hc.mono ?_;rintro e w' ⟨rfl,n,os,rfl⟩;have Cq:Mod [b] w (sortWorldK (DS av) k w b 0 n (S xs.toArray) os):=ztj;have Ix:=yU (enc:=DS av) (k:=k) (m:=n) (d:=S xs.toArray) (os:=os) z3;generalize sortWorldK (DS av) k w b 0 n (S xs.toArray) os=w' at Cq Ix;have BY:(S xs.toArray).size=xs.length:=by simpa using GV
     have cH:(flatK (DS av) k (S xs.toArray)).size=xs.length*k:=by rw[size_flatK,BY]
     have B5:(Go.Sort.putCells id 0 (flatK (DS av) k (S xs.toArray)) C).toList.take (xs.length*k)=(S xs.toArray).toList.flatMap (DS av):=by rw[<-cH,xI _ _ (by rw[cH,z4];exact hmul),iU BH]
     have Db:∀x∈(S xs.toArray).toList,x∈xs:=λx hx=>by simpa using hp.mem_iff.1 hx
     have Dm:Rd w' ((S xs.toArray).toList.flatMap (DS av)) (AA ((S xs.toArray).toList.map av)) []:=(lO λx hx=>q2 x (Db x hx)).frame (by simp);have Br:CQ w' el k (.slice (some ⟨b,0,none⟩) (xs.map av).length cap) (.sl ((S xs.toArray).toList.map av)) [b] []:=by
      refine⟨_,rfl,λy hy=> ?_,p0, .inr ⟨b,cap,_,by simp[GV],by simpa[GV]using z1,z2,Ix,by simp[Go.Sort.putCells,z4],rfl,?_,?_⟩⟩
      ·obtain⟨x,_,rfl⟩:=List.mem_map.1 hy;exact hlen x
      ·rw[List.length_map,GV,B5];intro u hu;obtain⟨x,hx,hu⟩:=List.mem_flatMap.1 hu;exact p4 u (by rw[q1];exact List.mem_flatMap.2 ⟨x,Db x hx,hu⟩)
      ·rw[List.length_map,GV,B5];exact Dm
     refine⟨_,rfl,⟨⟨.tup [],[.sl ((S xs.toArray).toList.map av)],[],[],[],[b],rfl,?_,?_,by simp,?_,by simp⟩,Cq.weaken λj hj=> .inl (by simpa using hj)⟩⟩
     ·rw[g5];exact⟨[],[],rfl,rfl, .nil⟩
     ·rw[g4,EN,AJ,hm];have FM:EW Tryz.prog w' (A5 Tryz.prog t) [true] [.slice (some ⟨b,0,none⟩) (xs.map av).length cap] [.sl ((S xs.toArray).toList.map av)] [] [b]:=by
       rw[g8];have:=EW.own (P:=Tryz.prog) (w:=w') (t:=t) (ts:=[]) (fl:=[true]) (us:=[]) (ys:=[]) rfl g9 (.inl ⟨g10,rfl⟩) (by rw[g11];exact Br) .nil;simpa using this
      have:=DA.mu (P:=Tryz.prog) (w:=w') (t:=t) (ts:=[ft]) (ms:=[.mu [true], .ro]) (own:=[true]) (v:= .slice (some ⟨b,0,none⟩) (xs.map av).length cap) (vs:=[.func (.func g) #[] #[]]) (us:=[.slice (some ⟨b,0,none⟩) (xs.map av).length cap]) (ys:=[.sl ((S xs.toArray).toList.map av)]) (y:= .sl ((S xs.toArray).toList.map av)) (bs:=[]) (f:=[]) (o:=[]) rfl (by rw[g7];simp) FM (.ro rfl .nil);simpa using this
     ·intro j hj;simp only[List.nil_append,List.mem_singleton]at hj;subst hj;exact⟨.inl (by simp),Fv Ix⟩
 ·cases hk
end Go.Proofs.YtkpifpljpoochaaGreatDoor
end
section
namespace Go.Proofs.YtkpifpljpoochaaGreatDoor
open Go Go.Proofs Go.Shelf Go.Sort
set_option maxRecDepth 100000
set_option maxHeartbeats 1000000
theorem bF(s:ByteArray)(W:World):Calls Tryz.prog 70 #[.string s] W λe w'=>e= .returned (.bool false)/\w'=W:=by
 go_enter Tryz.func70,Tryz.ntmps70
 go_wp2
 go_ret
 exact⟨rfl,rfl⟩
def HT(a b:ByteArray):Int:=if Op.bytesLess a.toList b.toList then-1 else if a.toList==b.toList then 0 else 1
theorem zzV(a b:ByteArray)(W:World):(binOp .gtr 9 (.string a) (.string b)).run Tryz.prog W= .ok (.bool (!(Op.bytesLess a.toList b.toList||a.toList==b.toList))) W:=by kernel_rfl
theorem zwG(a b:ByteArray)(W:World):Calls Tryz.prog 35 #[.string a, .string b] W λe w'=>e= .returned (.int .i64 (HT a b))/\w'=W:=by
 have hg:=zzV a b;unfold HT;by_cases h1:Op.bytesLess a.toList b.toList=true
 ·rw[if_pos h1]
  go_enter Tryz.func35,Tryz.ntmps35
  go_wp2_with (go_at_call 70;refine(bF _ _).mono ?_;rintro e w' ⟨rfl,rfl⟩)
  go_ret
  exact⟨rfl,rfl⟩
 ·have SP:Op.bytesLess a.toList b.toList=false:=by simpa using h1
  rw[if_neg h1];clear h1;by_cases h2:(a.toList==b.toList)=true
  ·rw[if_pos h2]
   go_enter Tryz.func35,Tryz.ntmps35
   go_wp2_with (go_at_call 70;refine(bF _ _).mono ?_;rintro e w' ⟨rfl,rfl⟩)
   go_ret
   exact⟨rfl,rfl⟩
  ·have V5:(a.toList==b.toList)=false:=by simpa using h2
   rw[if_neg h2];clear h2
   go_enter Tryz.func35,Tryz.ntmps35
   go_wp2_with (go_at_call 70;refine(bF _ _).mono ?_;rintro e w' ⟨rfl,rfl⟩)
   go_ret
   exact⟨rfl,rfl⟩
def Q4(x y:Int):Int:=if x≠0 then x else y
theorem zzD(x y:Int)(b:Nat)(W:World)(h0:W.cell? ⟨b,0,none⟩=some (.int .i64 x))(h1:W.cell? ⟨b,1,none⟩=some (.int .i64 y)):
  Calls Tryz.prog 34 #[.slice (some ⟨b,0,none⟩) 2 2] W λe w'=>e= .returned (.int .i64 (Q4 x y))/\w'=W:=by
 unfold Q4;by_cases hx:x=0
 ·subst hx;by_cases hy:y=0
  ·subst hy
   go_enter Tryz.func34,Tryz.ntmps34
   go_wp2
   refine wp_loop_rounds 3 ?_;rw[rounds_succ]
   go_wp2
   rw[rounds_succ]
   go_wp2
   rw[rounds_succ]
   go_wp2
   go_ret
   exact⟨rfl,rfl⟩
  ·go_enter Tryz.func34,Tryz.ntmps34
   go_wp2
   refine wp_loop_rounds 2 ?_;rw[rounds_succ]
   go_wp2
   rw[rounds_succ]
   go_wp2
   go_ret
   exact⟨rfl,rfl⟩
 ·rw[if_pos hx]
  go_enter Tryz.func34,Tryz.ntmps34
  go_wp2
  refine wp_loop_rounds 1 ?_;rw[rounds_succ]
  go_wp2
  go_ret
  exact⟨rfl,rfl⟩
theorem zzH(v1 p1 v2 p2:ByteArray)(W:World):
  Calls Tryz.prog 57 #[.agg #[.string v1, .string p1], .agg #[.string v2, .string p2]] W λe w'=>
   e= .returned (.int .i64 (Q4 (HT v1 v2) (HT p1 p2)))/\ ∃q os',w'=grow (W.drewN q) os':=by
 have Bi:=zwG;have qZ:=zzD
 go_enter Tryz.func57,Tryz.ntmps57
 go_wp2_with fail
 have c0:∀A B:Obj,((W.alloc A).alloc B).drew.heap[W.heap.size]?=some A:=λA B=>by show((W.heap.push A).push B)[W.heap.size]?=some A;simp[Array.getElem?_push]
 have c1:∀A B:Obj,((W.alloc A).alloc B).drew.heap[W.heap.size+1]?=some B:=λA B=>by
  show((W.heap.push A).push B)[W.heap.size+1]?=some B;have h:W.heap.size+1=(W.heap.push A).size:=by simp
  rw[h,Array.getElem?_push_size]
 have hd:∀A B:Obj,∃q os,((W.alloc A).alloc B).drew=grow (W.drewN q) os:=λA B=>⟨1, #[A,B],by rw[alloc_eq_grow,alloc_eq_grow,grow_grow];rfl⟩
 refine wp_region_still_tail 10 (by kernel_rfl) (by kernel_rfl) ?_;simp only[List.take_succ_cons,List.take_zero,List.drop_succ_cons,List.drop_zero];change wpStill _ _ (World.drew _) (λa'=>wpList _ _ _ _ a' (World.drew _)) _ _;have b0:=Z2 (c0 (.cells #[.string v1, .string p1] 93) (.cells #[.string v2, .string p2] 93));have b1:=Z2 (c1 (.cells #[.string v1, .string p1] 93) (.cells #[.string v2, .string p2] 93));have hq:=hd (.cells #[.string v1, .string p1] 93) (.cells #[.string v2, .string p2] 93);clear c0 c1 hd;generalize ((W.alloc (.cells #[.string v1, .string p1] 93)).alloc (.cells #[.string v2, .string p2] 93)).drew=W2 at*;obtain⟨q,os,hq⟩:=hq;have HQ:=Lib.hid hq;clear hq
 repeat still_step
 still_call (Bi _ _ _)
 repeat still_step
 still_call (Bi _ _ _)
 refine wpStill_nil ?_;change wpList _ _ _ _ _ W2
 go_wp2_with (go_at_call 34;refine(qZ (HT v1 v2) (HT p1 p2) _ _ (by simp) (by simp)).mono ?_;rintro e w' ⟨rfl,rfl⟩)
 have H:=HQ.out
 go_ret
 exact⟨rfl,q,_,by rw[H,alloc_eq_grow,grow_grow]⟩
end Go.Proofs.YtkpifpljpoochaaGreatDoor
end
section
namespace Go.Proofs
open Go.Shelf
def Tryz.ed:Go.Shelf.Ren:=⟨λ|6=>56|15=>98|14=>97|28=>131|29=>132|20=>123|21=>124|22=>125|23=>126|24=>127|25=>128|26=>129|27=>130|46=>149|47=>150|48=>151|49=>152|50=>153|57=>166|n=>n,λ|22=>88|24=>93|25=>95|3=>3|39=>124|0=>0|53=>150|55=>51|4=>4|46=>143|45=>142|50=>147|5=>5|9=>9|66=>159|70=>163|76=>175|77=>176|n=>n,λ|n=>n⟩
theorem Tryz.sortEntries:Go.Proofs.SlLaysF0.n6 Tryz.prog Tryz.ed:={
 mixed:=by kernel_rfl
 f6:=⟨Tryz.f56.name,by decide,Tryz.func56.trans (congrArg some (by kernel_rfl))⟩
 f14:=⟨Tryz.f97.name,by decide,Tryz.func97.trans (congrArg some (by kernel_rfl))⟩
 f15:=Tryz.func98.trans (congrArg some (by kernel_rfl))
 f20:=⟨Tryz.f123.name,by decide,Tryz.func123.trans (congrArg some (by kernel_rfl))⟩
 f21:=⟨Tryz.f124.name,by decide,Tryz.func124.trans (congrArg some (by kernel_rfl))⟩
 f22:=⟨Tryz.f125.name,by decide,Tryz.func125.trans (congrArg some (by kernel_rfl))⟩
 f23:=⟨Tryz.f126.name,by decide,Tryz.func126.trans (congrArg some (by kernel_rfl))⟩
 f24:=⟨Tryz.f127.name,by decide,Tryz.func127.trans (congrArg some (by kernel_rfl))⟩
 f25:=⟨Tryz.f128.name,by decide,Tryz.func128.trans (congrArg some (by kernel_rfl))⟩
 f26:=⟨Tryz.f129.name,by decide,Tryz.func129.trans (congrArg some (by kernel_rfl))⟩
 f27:=⟨Tryz.f130.name,by decide,Tryz.func130.trans (congrArg some (by kernel_rfl))⟩
 f28:=Tryz.func131.trans (congrArg some (by kernel_rfl))
 f29:=Tryz.func132.trans (congrArg some (by kernel_rfl))
 f46:=⟨Tryz.f149.name,by decide,Tryz.func149.trans (congrArg some (by kernel_rfl))⟩
 f47:=Tryz.func150.trans (congrArg some (by kernel_rfl))
 f48:=Tryz.func151.trans (congrArg some (by kernel_rfl))
 f49:=⟨Tryz.f152.name,by decide,Tryz.func152.trans (congrArg some (by kernel_rfl))⟩
 f50:=⟨Tryz.f153.name,by decide,Tryz.func153.trans (congrArg some (by kernel_rfl))⟩
 f57:=⟨Tryz.f166.name,by decide,Tryz.func166.trans (congrArg some (by kernel_rfl))⟩
 t0:=Tryz.underlying0
 a0:=Tryz.isAgg0
 z0:=Tryz.sizeOf0
 v0:=Tryz.zeroValue0
 t3:=Tryz.underlying3
 a3:=Tryz.isAgg3
 z3:=Tryz.sizeOf3
 v3:=Tryz.zeroValue3
 t4:=Tryz.underlying4
 a4:=Tryz.isAgg4
 z4:=Tryz.sizeOf4
 v4:=Tryz.zeroValue4
 t5:=Tryz.underlying5
 a5:=Tryz.isAgg5
 z5:=Tryz.sizeOf5
 v5:=Tryz.zeroValue5
 t9:=Tryz.underlying9
 a9:=Tryz.isAgg9
 z9:=Tryz.sizeOf9
 v9:=Tryz.zeroValue9
 t22:=Tryz.underlying88
 a22:=Tryz.isAgg88
 z22:=Tryz.sizeOf88
 v22:=Tryz.zeroValue88
 t25:=Tryz.underlying95
 a25:=Tryz.isAgg95
 z25:=Tryz.sizeOf95
 v25:=Tryz.zeroValue95
 t39:=Tryz.underlying124
 a39:=Tryz.isAgg124
 z39:=Tryz.sizeOf124
 v39:=Tryz.zeroValue124
 t45:=Tryz.underlying142
 a45:=Tryz.isAgg142
 z45:=Tryz.sizeOf142
 v45:=Tryz.zeroValue142
 t46:=Tryz.underlying143
 a46:=Tryz.isAgg143
 z46:=Tryz.sizeOf143
 v46:=Tryz.zeroValue143
 t50:=Tryz.underlying147
 a50:=Tryz.isAgg147
 z50:=Tryz.sizeOf147
 v50:=Tryz.zeroValue147
 t53:=Tryz.underlying150
 a53:=Tryz.isAgg150
 z53:=Tryz.sizeOf150
 v53:=Tryz.zeroValue150
 t55:=Tryz.underlying51
 a55:=Tryz.isAgg51
 z55:=Tryz.sizeOf51
 v55:=Tryz.zeroValue51
 t66:=Tryz.underlying159
 a66:=Tryz.isAgg159
 z66:=Tryz.sizeOf159
 v66:=Tryz.zeroValue159
 t70:=Tryz.underlying163
 a70:=Tryz.isAgg163
 z70:=Tryz.sizeOf163
 v70:=Tryz.zeroValue163
 t76:=Tryz.underlying175
 a76:=Tryz.isAgg175
 z76:=Tryz.sizeOf175
 v76:=Tryz.zeroValue175
 t77:=Tryz.underlying176
 a77:=Tryz.isAgg176
 z77:=Tryz.sizeOf176
 v77:=Tryz.zeroValue176}
end Go.Proofs
end
section
namespace Go.Proofs.YtkpifpljpoochaaGreatDoor
open Go.RowKit
theorem BZ{α:Type}{xs:List α}{i:Nat}(h:i<xs.length):getI xs (i:Int)=some xs[i]:=by simp[getI,h]
theorem Pg{α:Type}{xs:List α}{i:Int}(h0:0<=i)(h:i<xs.length):∃x,getI xs i=some x/\x∈xs/\xs[i.toNat]?=some x:=by
 have hi:i.toNat<xs.length:=by omega
 exact⟨xs[i.toNat],by simp[getI,h0,hi],Bu hi,by simp[hi]⟩
theorem CG{q n:Nat}(h:q<n)(hn:n<=9223372036854775807):IntKind.i64.wrap ((q:Int)+1)=((q+1:Nat):Int):=by rw[Ch (by omega) (by omega)];simp
theorem A7{α:Type}{p:Prop}{k:Option α}(h:p):req p k=k:=by simp[req,h]
def GN{α σ β:Type}(step:α->σ->Option (σ ⊕ Option β))(fin:σ->Option β):List α->σ->Option β
 | [],s=>fin s
 |x::xs,s=>match step x s with
  |none=>none
  |some (.inl s')=>GN step fin xs s'
  |some (.inr o)=>o
def Nw{σ τ β:Type}(f:σ->τ):Option (σ ⊕ Option β)->Option (τ ⊕ Option β)
 |none=>none
 |some (.inl s)=>some (.inl (f s))
 |some (.inr o)=>some (.inr o)
theorem zuv{α σ τ β:Type}{xs:List α}{body:τ->Option (τ ⊕ Option β)}(emb:Int->σ->τ)(step:α->σ->Option (σ ⊕ Option β))(fin:σ->Option β)(q0:Nat)
  (hs:∀(i:Nat) (hi:i<xs.length) (s:σ),q0<=i->body (emb i s)=Nw (emb ((i+1:Nat):Int)) (step xs[i] s)) (he:∀s,body (emb xs.length s)=some (.inr (fin s))) (s:σ) (h0:q0<=xs.length):AX body (emb q0 s)=GN step fin (xs.drop q0) s:=by
 have key:∀(n q:Nat) (s:σ),q0<=q->q+n=xs.length->AX body (emb q s)=GN step fin (xs.drop q) s:=by
  intro n
  induction n with
  |zero=>
   intro q s _ hq;have:q=xs.length:=by omega
   subst this;rw[G8,he s];simp[GN]
  |succ n ih=>
   intro q s h0 hq;have AI:q<xs.length:=by omega
   rw[G8,hs q AI s h0,BL AI];rcases G1:step xs[q] s with _|s'|o
   ·simp[GN,G1,Nw]
   ·simp only[GN,G1,Nw];exact ih (q+1) s' (by omega) (by omega)
   ·simp[GN,G1,Nw]
 exact key (xs.length-q0) q0 s (Ay _) (by omega)
theorem jD{α σ τ β:Type}{xs:List α}{body:τ->Option (τ ⊕ Option β)}(emb:Int->σ->τ)(step:α->σ->Option (σ ⊕ Option β))(fin:σ->Option β)
  (hs:∀(i:Nat) (hi:i<xs.length) (s:σ),body (emb i s)=Nw (emb ((i+1:Nat):Int)) (step xs[i] s)) (he:∀s,body (emb xs.length s)=some (.inr (fin s))) (s:σ):AX body (emb 0 s)=GN step fin xs s:=by
 have:=zuv emb step fin 0 (λi hi s _=>hs i hi s) he s (by omega);simpa using this
theorem zxl{α σ β:Type}{step:α->σ->Option (σ ⊕ Option β)}{fin:σ->Option β}{xs:List α}(p:α->Bool)(b:β)(h:∀x∈xs,∀s,step x s=some (if p x=true then .inl s else .inr (some b)))(s:σ):GN step fin xs s=if xs.all p=true then fin s else some b:=by
 induction xs with
 |nil=>simp[GN]
 |cons x xs ih=>
  simp only[GN,h x (by simp) s];cases hp:p x with
  |true=>simp[hp,ih λy hy=>h y (by simp[hy])]
  |false=>simp[hp]
theorem zvI{α σ β:Type}{step:α->σ->Option (σ ⊕ Option β)}{fin:σ->Option β}{xs:List α}(f:σ->α->σ)(I:σ->Prop)(hI:∀x∈xs,∀s,I s->I (f s x))(h:∀x∈xs,∀s,I s->step x s=some (.inl (f s x))){s:σ}(hs:I s):GN step fin xs s=fin (xs.foldl f s):=by
 induction xs generalizing s with
 |nil=>simp[GN]
 |cons x xs ih=>simp only[GN,h x (by simp) s hs,List.foldl_cons];exact ih (λy hy=>hI y (by simp[hy])) (λy hy=>h y (by simp[hy])) (hI x (by simp) s hs)
theorem G6{α σ τ β:Type}{xs:List α}{body:τ->Option (τ ⊕ Option β)}(emb:Int->σ->τ)(f:σ->α->σ)(fin:σ->Option β)(I:Nat->σ->Prop)
  (hs:∀(i:Nat) (hi:i<xs.length) (s:σ),I i s->body (emb i s)=some (.inl (emb ((i+1:Nat):Int) (f s xs[i])))/\I (i+1) (f s xs[i])) (he:∀s,I xs.length s->body (emb xs.length s)=some (.inr (fin s))) {s:σ} (h0:I 0 s):AX body (emb 0 s)=fin (xs.foldl f s)/\I xs.length (xs.foldl f s):=by
 have key:∀(n q:Nat) (s:σ),q+n=xs.length->I q s->AX body (emb q s)=fin ((xs.drop q).foldl f s)/\I xs.length ((xs.drop q).foldl f s):=by
  intro n
  induction n with
  |zero=>
   intro q s hq hI;have:q=xs.length:=by omega
   subst this;rw[G8,he s hI];simp[hI]
  |succ n ih=>
   intro q s hq hI;have AI:q<xs.length:=by omega
   obtain⟨h1,h2⟩:=hs q AI s hI;rw[G8,h1,BL AI,List.foldl_cons];exact ih (q+1) _ (by omega) h2
 have:=key xs.length 0 s (by omega) h0;simpa using this
theorem aL{α:Type}{xs:List α}{p:α->Option Bool}(q:α->Bool)(hp:∀x∈xs,p x=some (q x))(hn:xs.length<=9223372036854775806):IY xs p=some (xs.any q):=by
 have key:∀(l:List α) (i:Int),0<=i->(∀x∈l,p x=some (q x))-> ∃r,DR p l i=some r/\decide (r>=0)=l.any q:=by
  intro l
  induction l with
  |nil=>intro i _ _;exact⟨-1,rfl,by simp⟩
  |cons x l ih=>
   intro i hi h;simp only[DR,h x (by simp),Aa];cases hq:q x with
   |true=>exact⟨i,by simp,by simp[hq,hi]⟩
   |false=>obtain⟨r,h1,h2⟩:=ih (i+1) (by omega) λy hy=>h y (by simp[hy]);exact⟨r,by simp[h1],by simp[hq,h2]⟩
 obtain⟨r,h1,h2⟩:=key xs 0 (by omega) hp;simp[IY,E8,A7 hn,h1,h2]
theorem zwn{α:Type}{b:Nat}{xs:List α}(h:(xs.length:Int)*b<=140737488355328)(h2:(xs.length:Int)<=140737488355328):aD b xs=some xs:=A7 ⟨h,h2⟩
theorem LB{β:Type}{n:Nat}{body:Int->Option (Int ⊕ Option β)}(p:Nat->Bool)(b:β)(fin:Option β)
  (hs:∀i:Nat,i<n->body i=some (if p i=true then .inl ((i+1:Nat):Int)else .inr (some b))) (he:body n=some (.inr fin)):AX body 0=if(List.range n).all p=true then fin else some b:=by
 have h1:=jD (xs:=List.range n) (body:=body) (λi (_:Unit)=>i) (λi _=>some (if p i=true then .inl ()else .inr (some b))) (λ_=>fin)
  (λi hi s=>by rw[List.length_range]at hi;rw[hs i hi,List.getElem_range];cases p i<;>simp[Nw]) (λs=>by simpa using he) ()
 rw[zxl p b λx _ s=>rfl]at h1;exact h1
def Co{α:Type}(p:α->Bool)(l:List α):Int:=match l.findIdx? p with|some i=>(i:Int)|none=> -1
theorem Vo{α:Type}(p:α->Bool):Co p []= -1:=rfl
theorem RS{α:Type}(p:α->Bool)(x:α)(l:List α):Co p (x::l)=if p x=true then 0 else if Co p l= -1 then-1 else Co p l+1:=by
 unfold Co;rw[List.findIdx?_cons];cases p x with
 |true=>simp
 |false=>
  cases h:l.findIdx? p with
  |none=>simp
  |some i=>simp<;>omega
theorem R5{α:Type}(p:α->Bool)(l:List α): -1<=Co p l:=by unfold Co;split<;>omega
theorem ZY{α:Type}(p:α->Bool)(l:List α):decide (Co p l>=0)=l.any p:=by
 induction l with
 |nil=>simp[Vo]
 |cons x l ih=>
  have h1:=R5 p l;rw[RS,List.any_cons,<-ih];cases p x with
  |true=>simp
  |false=>
   by_cases h:Co p l= -1
   ·simp[h]
   ·have:Co p l>=0:=by omega
    simp[h,this];try omega
theorem R1{α:Type}{p:α->Bool}{l:List α}(h:Co p l>=0):∃x,getI l (Co p l)=some x/\p x=true/\x∈l:=by
 induction l with
 |nil=>simp[Vo]at h
 |cons y l ih=>
  rw[RS]at h ⊢;cases hy:p y with
  |true=>exact⟨y,by simp[getI],hy,by simp⟩
  |false=>
   have h1:=R5 p l;by_cases hm:Co p l= -1
   ·rw[hy,hm]at h;simp at h
   ·have h0:Co p l>=0:=by omega
    obtain⟨x,e1,e2,e3⟩:=ih h0;obtain⟨_,e4,e5⟩:=bG e1;refine⟨x,?_,e2,by simp[e3]⟩;simp only[BX,if_false,hm];unfold getI;rw[if_pos (by omega),show(Co p l+1).toNat=(Co p l).toNat+1 by omega];simpa using e5
theorem Z1{α:Type}{xs:List α}{body:Int->Option (Int ⊕ Option Int)}(p:α->Bool)(hs:∀(i:Nat) (hi:i<xs.length),body i=some (if p xs[i]=true then .inr (some (i:Int))else .inl ((i+1:Nat):Int)))(he:body xs.length=some (.inr (some (-1)))):AX body 0=some (Co p xs):=by
 have key:∀(n q:Nat),q+n=xs.length->AX body q=some (if Co p (xs.drop q)= -1 then-1 else q+Co p (xs.drop q)):=by
  intro n
  induction n with
  |zero=>
   intro q hq;have:q=xs.length:=by omega
   subst this;rw[G8,he];simp[Vo]
  |succ n ih=>
   intro q hq;have AI:q<xs.length:=by omega
   rw[G8,hs q AI,BL AI,RS];cases p xs[q]with
   |true=>simp
   |false=>
    simp only[BX,if_false];rw[ih (q+1) (by omega)];have h1:=R5 p (xs.drop (q+1));congr 1;by_cases hm:Co p (xs.drop (q+1))= -1
    ·simp[hm]
    ·have h2: ¬(Co p (xs.drop (q+1))+1= -1):=by omega
     simp only[hm,if_false,h2];omega
 have h:=key xs.length 0 (by omega);rw[List.drop_zero]at h;rw[show((0:Nat):Int)=0 from rfl]at h;rw[h];have h1:=R5 p xs;by_cases hm:Co p xs= -1
 ·simp[hm]
 ·simp[hm]
theorem fP{α:Type}{xs:List α}{p:α->Option Bool}(q:α->Bool)(hp:∀x∈xs,p x=some (q x))(hn:xs.length<=9223372036854775806):E8 xs p=some (Co q xs):=by
 have key:∀(l:List α) (i:Int),(∀x∈l,p x=some (q x))->DR p l i=some (if Co q l= -1 then-1 else i+Co q l):=by
  intro l
  induction l with
  |nil=>intro i _;simp[DR,Vo]
  |cons x l ih=>
   intro i h;simp only[DR,h x (by simp),Aa,RS];cases q x with
   |true=>simp
   |false=>
    simp only[BX,if_false];rw[ih (i+1) λy hy=>h y (by simp[hy])];have h1:=R5 q l;congr 1;by_cases hm:Co q l= -1
    ·simp[hm]
    ·have h2: ¬(Co q l+1= -1):=by omega
     simp only[hm,if_false,h2];omega
 unfold E8;rw[A7 hn,key xs 0 hp];by_cases hm:Co q xs= -1
 ·simp[hm]
 ·simp[hm]
theorem oI{α:Type}{b:Bool}{A B:Option α}{y:Option α}(ha:b=true->A=y)(hb:b=false->B=y):(if b=true then A else B)=y:=by
 cases b with
 |true=>simpa using ha rfl
 |false=>simpa using hb rfl
theorem zxp{α β:Type}{o:Option α}{x:α}{f:α->Option β}(h:o=some x):o.bind f=f x:=by rw[h];rfl
abbrev bl(a b:List UInt8):Bool:=Op.bytesLess a b
theorem Kv:∀a:List UInt8,bl a a=false
 | []=>rfl
 |x::a=>by
  have h: ¬x<x:=λh=>by have:=UInt8.lt_iff_toNat_lt.1 h;omega
  show Op.bytesLess (x::a) (x::a)=false;simp only[Op.bytesLess,h,decide_false,Bool.false_or,beq_self_eq_true,Bool.true_and];exact Kv a
theorem aC(x y:UInt8)(a b:List UInt8):bl (x::a) (y::b)=true↔x.toNat<y.toNat\/x=y/\bl a b=true:=by show Op.bytesLess (x::a) (y::b)=true↔_;simp only[Op.bytesLess,Bool.or_eq_true,AN,Ae,Ax,UInt8.lt_iff_toNat_lt]
theorem I6:∀{a b c:List UInt8},bl a b=true->bl b c=true->bl a c=true
 | [],_,[],_,h=>by rename_i b _;cases b<;>cases h
 | [],_,_::_,_,_=>rfl
 |_::_,[],_,h,_=>by cases h
 |_::_,_::_,[],_,h=>by cases h
 |x::a,y::b,z::c,h1,h2=>by
  rw[aC]at*;rcases h1 with h1|⟨rfl,h1⟩<;>rcases h2 with h2|⟨rfl,h2⟩
  ·exact .inl (by omega)
  ·exact .inl h1
  ·exact .inl h2
  ·exact .inr ⟨rfl,I6 h1 h2⟩
theorem VI:∀a b:List UInt8,bl a b=true\/a=b\/bl b a=true
 | [],[]=> .inr (.inl rfl)
 | [],_::_=> .inl rfl
 |_::_,[]=> .inr (.inr rfl)
 |x::a,y::b=>by
  rw[aC,aC];rcases Nat.lt_trichotomy x.toNat y.toNat with h|h|h
  ·exact .inl (.inl h)
  ·have h0:x=y:=UInt8.toNat_inj.1 h;subst h0;rcases VI a b with h1|h1|h1
   ·exact .inl (.inr ⟨rfl,h1⟩)
   ·exact .inr (.inl (by rw[h1]))
   ·exact .inr (.inr (.inr ⟨rfl,h1⟩))
  ·exact .inr (.inr (.inl h))
theorem Z5{a b:List UInt8}(h:bl a b=true):bl b a=false:=by
 cases h2:bl b a with
 |false=>rfl
 |true=>have:=I6 h h2;rw[Kv]at this;cases this
theorem GH{a b:List UInt8}(h:bl a b=true):a≠b:=by rintro rfl;rw[Kv]at h;cases h
theorem U8{a b:List UInt8}(h:bl a b=false)(hn:a≠b):bl b a=true:=by
 rcases VI a b with h1|h1|h1
 ·rw[h]at h1;cases h1
 ·exact absurd h1 hn
 ·exact h1
section
variable {α:Type} (key:α->List UInt8)
def EG(l:List α):Prop:=l.Pairwise λa b=>bl (key a) (key b)=true
def Df(x:α):List α->List α
 | []=> [x]
 |y::l=>if bl (key x) (key y)=true then x::y::l else if key x=key y then x::l else y::Df x l
variable {key}
theorem EG.jb{l:List α}(h:EG key l){a b:α}(ha:a∈l)(hb:b∈l)(e:key a=key b):a=b:=by
 induction l with
 |nil=>cases ha
 |cons y l ih=>
  have h1:=List.pairwise_cons.1 h;rcases Ad.1 ha with q1|q1<;>rcases Ad.1 hb with q2|q2
  ·rw[q1,q2]
  ·exact absurd (q1▸e) (GH (h1.1 _ q2))
  ·exact absurd (q2▸e.symm) (GH (h1.1 _ q1))
  ·exact ih h1.2 q1 q2
theorem ZV{x:α}:∀{l:List α},EG key l-> ∀y,y∈Df key x l↔y=x\/y∈l/\key y≠key x
 | [],_,y=>by simp[Df]
 |z::l,h,y=>by
  have h1:=List.pairwise_cons.1 h;unfold Df;split
  ·rename_i hb;constructor
   ·intro hy;rcases Ad.1 hy with rfl|hy
    ·exact .inl rfl
    ·refine .inr ⟨hy,?_⟩;rcases Ad.1 hy with rfl|hy
     ·exact(GH hb).symm
     ·exact(GH (I6 hb (h1.1 _ hy))).symm
   ·rintro(rfl|⟨hy,_⟩)
    ·simp
    ·exact List.mem_cons_of_mem _ hy
  ·rename_i hb;split
   ·rename_i he;constructor
    ·intro hy;rcases Ad.1 hy with rfl|hy
     ·exact .inl rfl
     ·exact .inr ⟨List.mem_cons_of_mem _ hy,λe=>GH (h1.1 _ hy) (by rw[e,he])⟩
    ·rintro(rfl|⟨hy,hn⟩)
     ·simp
     ·rcases Ad.1 hy with rfl|hy
      ·exact absurd he.symm hn
      ·exact List.mem_cons_of_mem _ hy
   ·rename_i he;rw[Ad,ZV h1.2];constructor
    ·rintro(rfl|rfl|⟨hy,hn⟩)
     ·exact .inr ⟨by simp,λe=>he e.symm⟩
     ·exact .inl rfl
     ·exact .inr ⟨List.mem_cons_of_mem _ hy,hn⟩
    ·rintro(rfl|⟨hy,hn⟩)
     ·exact .inr (.inl rfl)
     ·rcases Ad.1 hy with rfl|hy
      ·exact .inl rfl
      ·exact .inr (.inr ⟨hy,hn⟩)
theorem jJ{x:α}:∀{l:List α},EG key l->EG key (Df key x l)
 | [],_=>by simp[Df,EG]
 |z::l,h=>by
  have h1:=List.pairwise_cons.1 h;unfold Df;split
  ·rename_i hb;refine List.pairwise_cons.2 ⟨λy hy=> ?_,h⟩;rcases Ad.1 hy with rfl|hy
   ·exact hb
   ·exact I6 hb (h1.1 _ hy)
  ·rename_i hb;split
   ·rename_i he;exact List.pairwise_cons.2 ⟨λy hy=>by rw[he];exact h1.1 _ hy,h1.2⟩
   ·rename_i he;refine List.pairwise_cons.2 ⟨λy hy=> ?_,jJ h1.2⟩;rcases(ZV h1.2 y).1 hy with rfl|⟨hy,_⟩
    ·exact U8 (by simpa using hb) he
    ·exact h1.1 _ hy
theorem EG.ext:∀{a b:List α},EG key a->EG key b->(∀x,x∈a↔x∈b)->a=b
 | [],[],_,_,_=>rfl
 | [],y::b,_,_,h=>absurd ((h y).2 (by simp)) (by simp)
 |x::a,[],_,_,h=>absurd ((h x).1 (by simp)) (by simp)
 |x::a,y::b,ha,hb,h=>by
  have h1:=List.pairwise_cons.1 ha;have h2:=List.pairwise_cons.1 hb;have e:x=y:=by
   rcases Ad.1 ((h x).1 (by simp))with e|hx
   ·exact e
   ·rcases Ad.1 ((h y).2 (by simp))with e|hy
    ·exact e.symm
    ·have:=I6 (h1.1 _ hy) (h2.1 _ hx);rw[Kv]at this;cases this
  subst e;rw[EG.ext h1.2 h2.2 λz=> ?_];constructor
  ·intro hz;rcases Ad.1 ((h z).1 (List.mem_cons_of_mem _ hz))with rfl|XK
   ·have:=h1.1 _ hz;rw[Kv]at this;cases this
   ·exact XK
  ·intro hz;rcases Ad.1 ((h z).2 (List.mem_cons_of_mem _ hz))with rfl|XK
   ·have:=h2.1 _ hz;rw[Kv]at this;cases this
   ·exact XK
theorem EG.filter{l:List α}(h:EG key l)(p:α->Bool):EG key (l.filter p):=List.Pairwise.filter p h
theorem EG.sub{a b:List α}(h:EG key b)(hs:a.Sublist b):EG key a:=List.Pairwise.sublist hs h
theorem kR{x:α}:∀(l:List α),(Df key x l).length<=l.length+1
 | []=>by simp[Df]
 |y::l=>by
  unfold Df;have:=kR (x:=x) l;split
  ·simp
  ·split
   ·simp
   ·simp only[Ao];omega
end
end Go.Proofs.YtkpifpljpoochaaGreatDoor
end
section
namespace Go.Proofs.YtkpifpljpoochaaGreatDoor
open Go.RowKit Go.Sort Go.Shelf
set_option maxRecDepth 100000
def KX(x y:Bf):Int:=Q4 (HT ⟨x.bb.toArray⟩ ⟨y.bb.toArray⟩) (HT ⟨x.al.toArray⟩ ⟨y.al.toArray⟩)
def Ct(a b:Bf):Bool:=if a.bb≠b.bb then bl a.bb b.bb else bl a.al b.al
theorem lR(a b:List UInt8):(HT ⟨a.toArray⟩ ⟨b.toArray⟩<0)↔bl a b=true:=by
 unfold HT;rw[ByteArray.toList_eq,ByteArray.toList_eq];by_cases h1:bl a b=true
 ·rw[if_pos (by simpa using h1)];simp[h1]
 ·rw[if_neg (by simpa using h1)];split<;>simp[h1]
theorem mF(a b:List UInt8):HT ⟨a.toArray⟩ ⟨b.toArray⟩≠0↔a≠b:=by
 unfold HT;rw[ByteArray.toList_eq,ByteArray.toList_eq];by_cases h1:bl a b=true
 ·rw[if_pos (by simpa using h1)];exact⟨λ_=>GH h1,λ_=>by decide⟩
 ·rw[if_neg (by simpa using h1)];by_cases h2:a=b
  ·subst h2;simp
  ·rw[if_neg (by simpa using h2)];exact⟨λ_=>h2,λ_=>by decide⟩
theorem Vk(x y:Bf):ltOf KX x y=Ct x y:=by
 unfold ltOf KX Ct Q4;by_cases h1:x.bb=y.bb
 ·have e1: ¬HT ⟨x.bb.toArray⟩ ⟨y.bb.toArray⟩≠0:=by rw[mF];simpa using h1
  rw[if_neg e1,if_neg (show¬x.bb≠y.bb by simpa using h1)];have:=lR x.al y.al;cases hb:bl x.al y.al
  ·rw[decide_eq_false];rw[this,hb];simp
  ·rw[decide_eq_true];rw[this,hb]
 ·rw[if_pos ((mF _ _).2 h1),if_pos h1];have:=lR x.bb y.bb;cases hb:bl x.bb y.bb
  ·rw[decide_eq_false];rw[this,hb];simp
  ·rw[decide_eq_true];rw[this,hb]
theorem OV(x:Bf):Ct x x=false:=by simp[Ct,Kv]
theorem O6{a b c:Bf}(h1:Ct a b=true)(h2:Ct b c=true):Ct a c=true:=by
 unfold Ct at*;by_cases t1:a.bb=b.bb<;>by_cases t2:b.bb=c.bb
 ·rw[if_neg (by simpa using t1)]at h1;rw[if_neg (by simpa using t2)]at h2;rw[if_neg (by simpa using t1.trans t2)];exact I6 h1 h2
 ·rw[if_pos t2]at h2;rw[if_pos (by rw[t1];exact t2),t1];exact h2
 ·rw[if_pos t1]at h1;rw[if_pos (by rw[<-t2];exact t1),<-t2];exact h1
 ·rw[if_pos t1]at h1;rw[if_pos t2]at h2;have:=I6 h1 h2;rw[if_pos (GH this)];exact this
theorem R7(a b:Bf):Ct a b=true\/Ct b a=true\/a=b:=by
 unfold Ct;by_cases t1:a.bb=b.bb
 ·rw[if_neg (show¬a.bb≠b.bb by simpa using t1),if_neg (show¬b.bb≠a.bb by simpa using t1.symm)];rcases VI a.al b.al with h|h|h
  ·exact .inl h
  ·refine .inr (.inr ?_);obtain⟨x,y⟩:=a;obtain⟨u,v⟩:=b;dsimp only at t1 h;rw[t1,h]
  ·exact .inr (.inl h)
 ·rw[if_pos t1,if_pos (Ne.symm t1)];rcases VI a.bb b.bb with h|h|h
  ·exact .inl h
  ·exact absurd h t1
  ·exact .inr (.inl h)
theorem oJ:SWO (ltOf KX)where
 irrefl x:=by rw[Vk];exact OV x
 trans x y z h1 h2:=by rw[Vk]at*;exact O6 h1 h2
 ntrans x y z h1 h2:=by
  rw[Vk]at*;rcases R7 x y with h|h|h
  ·rw[h]at h1;cases h1
  ·rcases R7 y z with k|k|k
   ·rw[k]at h2;cases h2
   ·have sA:=O6 k h;cases rW:Ct x z
    ·rfl
    ·have:=O6 sA rW;rw[OV]at this;cases this
   ·rw[<-k];exact h1
  ·rw[h];exact h2
instance:Inhabited Bf:=⟨⟨[],[]⟩⟩
def Fh(d:Array Bf):Array Bf:=pdq (ltOf KX) d 0 d.size (Lib.bitLen d.size) true true
theorem jO(d:Array Bf):(Fh d).toList.Perm d.toList/\(Fh d).size=d.size/\SortedIn (ltOf KX) 0 d.size (Fh d):=by
 obtain⟨⟨h1,_,h2⟩,h3⟩:=pdq_sorts (ltOf KX) oJ d 0 d.size (Lib.bitLen d.size) true true (Nat.zero_le _) (Ay _) (Or.inl rfl);have e:(Fh d).extract 0 d.size=Fh d:=by have:d.size=(Fh d).size:=h1.symm;rw[this];simp
 refine⟨?_,h1,h3⟩;have V5:((Fh d).extract 0 d.size).toList.Perm (d.extract 0 d.size).toList:=h2;rw[e]at V5;simpa using V5
theorem ztB(blk cap:Nat)(d:Array Bf)(w:World)(hH:HoldsK (DS KG) 2 w blk 0 d)(hblk:blk<w.heap.size)(BY:d.size<4611686018427387904):
  Calls Tryz.prog 56 #[.slice (some ⟨blk,0,none⟩) d.size cap, .func (.func 57) #[] #[]] w λe w'=>e= .returned (.tuple #[])/\ ∃n os,w'=sortWorldK (DS KG) 2 w blk 0 n (Fh d) os:=by
 have eg:∀args w,(callFunc 57 args).run Tryz.prog w= .ok (.enter 57 args) w:=enters_of Tryz.func57 (by kernel_rfl) rfl;have Wq:CmpLays Tryz.prog 57 #[] (DS KG) 2 KX blk 0 d.size w:=λm os dk hs x y=>zzH ⟨x.bb.toArray⟩ ⟨x.al.toArray⟩ ⟨y.bb.toArray⟩ ⟨y.al.toArray⟩ _;exact AnyQ.slices_SortFunc_eq Tryz.sortEntries 2 Tryz.isAgg93 Tryz.sizeOf93 (DS KG) (λ_=>rfl) (λx v hv=>by simp only[DS,KG,AV.cells,List.map_cons,List.map_nil,AV.val,Ad,List.not_mem_nil,or_false]at hv;rcases hv with rfl|rfl<;>rfl) KX oJ 57 #[] blk 0 cap d w eg Wq hH hblk BY
theorem zW(p:Option Addr)(cap:Nat)(fv:Value)(w:World):Calls Tryz.prog 56 #[.slice p 0 cap,fv] w λe w'=>e= .returned (.tuple #[])/\w'=w:=
 AnyF.slices_SortFunc_none Tryz.sortEntries p cap fv w
noncomputable def UB(g:Nat)(caps:List AV)(xs:List Bf):Option (Unit × List Bf):=req (g=57/\caps=[]/\xs.length<4611686018427387904) (some ((),(Fh xs.toArray).toList))
theorem wH{g:Nat}{caps:List AV}{xs:List Bf}{r:Unit × List Bf}(h:UB g caps xs=some r):
  Cw Tryz.prog CF 56 [.sl (xs.map KG), .fn g caps] (.tup [.tup [], .sl (r.2.map KG)]):=by
 obtain⟨hc,hr⟩:=GL h;obtain⟨rfl,rfl,hb⟩:=hc;cases hr;exact zv0 (ft:=(match Tryz.prog.funcs[56]? with|some fn=>fn.params.toList.getD 1 0|none=>0)) (t:=88) (el:=93) (k:=2) Fh (by kernel_rfl) (λx y hy=>by simp only[KG,AV.cells,Ad,List.not_mem_nil,or_false]at hy;rcases hy with rfl|rfl<;>rfl) (λ_=>rfl) (λd=>(jO d).1) ztB zW xs hb
end Go.Proofs.YtkpifpljpoochaaGreatDoor
end

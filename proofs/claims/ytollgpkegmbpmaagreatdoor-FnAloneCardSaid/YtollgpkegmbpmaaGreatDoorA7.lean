/- Parts of a proof, joined: DA, DB, MA, MB, OB, OG, QA, QO, MC, MD, QT, TF, HB, SP, HL, IA, IC, IB, RI, CM. -/
import Derived.Test.YtollgpkegmbpmaaGreatDoorA6
import Derived.Test.YtollgpkegmbpmaaGreatDoorProg
import Derived.Test.YtollgpkegmbpmaaGreatDoorChecked
import Derived.Shelf.Strings.Builder1
import Derived.Shelf.Strings.Builder2
import Derived.Shelf.Strings.OnBuilder
import Derived.Shelf.Small.Bits
import Derived.Shelf.Small.Strs
import Derived.Shelf.Small.Wraps
import Derived.Shelf.Strings.BuilderF
import Derived.Shelf.Strings.BuilderK
import Derived.Shelf.Utf8.RuneCount
import Derived.Shelf.Strings.Builder2Cap
import Derived.Shelf.Strconv.Atoi
import Derived.Shelf.Strconv.Itoa0
import Derived.Shelf.Strconv.Itoa1
import Derived.Shelf.LaysM
import Derived.Shelf.Strconv.Itoa2
import Derived.Shelf.Strconv.Itoa3
import Derived.Shelf.Strconv.AtoiErrFast
import Derived.Shelf.Strconv.ParseIntEmpty
import Derived.Shelf.Strconv.AtoiFail
import Derived.Shelf.Strconv.Clone
import Derived.Shelf.Strconv.SyntaxError
import Derived.Shelf.LaysC
import Derived.Shelf.Strconv.ToError
import Derived.Shelf.Strconv.Lower
import Derived.Shelf.Strconv.ParseUint10
import Derived.Shelf.Strconv.ParseUint10Empty
import Derived.Shelf.Strconv.ParseUint10Any
import Derived.Shelf.Strconv.ParseInt10
import Derived.Shelf.Strconv.AtoiLong
import Derived.Shelf.Strconv.AtoiInnerAll
import Derived.Shelf.Strconv.RangeError
import Derived.Shelf.Strconv.ToErrorRange
import Derived.Shelf.Strconv.AtoiAll
import Derived.Shelf.Strconv.ErrVarAll
import Derived.Shelf.Strings.Search1
import Derived.Shelf.Strings.Search2
import Derived.Shelf.Strings.Search3
import Derived.Shelf.Strings.Cut
import Derived.Shelf.Strings.Count
import Derived.Shelf.Strings.Shaped
import Derived.Shelf.Strings.Prefix
import Derived.Shelf.Strings.Split
import Derived.Shelf.Strings.SplitShaped
import Derived.Shelf.Unicode.Decode
import Derived.Shelf.Strings.RuneCount
import Derived.Shelf.Strings.Explode
import Derived.Shelf.Unicode.DecodeSlow
import Derived.Shelf.Unicode.DecodeAny
import Derived.Shelf.Strings.BuilderCap
import Derived.Ground.Names2Prog
import Derived.Shelf.Slices.Clone
import Derived.Shelf.Slices.CompactS
import Derived.Shelf.Slices.Cells
import Derived.Ground.SlgnProg
import Derived.Shelf.SlicesE.Clone
import Derived.Laws.CopyRow
import Derived.Lib.AppendZerosOnto
import Derived.Lib.Overlaps
import Derived.Deep.RegionLaw
import Derived.StillTailTactics
import Derived.Deep.QuietTactic
import Derived.Sort.Grow
import Derived.Lib.RowBridge
set_option linter.unusedVariables false
set_option linter.unusedSimpArgs false
section
namespace Go.Proofs.YtollgpkegmbpmaaGreatDoor
open Go.RowKit
noncomputable def Y5 (t:TypeId):List Bool:=(AR Tryz.prog t).map fun u=>match B9 Tryz.prog u with|some e=>BE Tryz.prog e|none=>false
noncomputable def kB (u:TypeId):List Bool:=if u=109 then []else Y5 u
noncomputable def zxO (fn:Func):Ge:={bg:=fn.params.toList.map fun t=>match IK Tryz.prog t with|some u=> .bx (kB u) (kB u)|none=> .ro,res:=fn.resultTypes.toList.flatMap Y5}
noncomputable def zw0 (f:Nat):Option Ge:=
 match f with
 |8=>some {bg:= [],res:= []}
 |13=>some {bg:= [],res:= []}
 |14=>some {bg:= [.ro, .ro],res:= []}
 |19=>some {bg:= [],res:= []}
 |26=>some {bg:= [],res:= []}
 |28=>some {bg:= [],res:= []}
 |35=>some {bg:= [],res:= []}
 |37=>some {bg:= [],res:= []}
 |38=>some {bg:= [.ro],res:= []}
 |40=>some {bg:= [],res:= []}
 |43=>some {bg:= [],res:= []}
 |49=>some {bg:= [],res:= []}
 |50=>some {bg:= [.ro, .ro, .ro],res:= []}
 |51=>some {bg:= [.ro, .ro, .ro],res:= []}
 |55=>some {bg:= [],res:= []}
 |62=>some {bg:= [.bx [] [], .ro, .ro],res:= []}
 |67=>some {bg:= [.ro, .ro],res:= []}
 |93=>some {bg:= [.mu [true]],res:= []}
 |94=>some {bg:= [.va [true]],res:= [true]}
 |98=>some {bg:= [],res:= []}
 |100=>some {bg:= [.ro, .ro],res:= []}
 |102=>some {bg:= [.bx [] [], .ro, .ro],res:= []}
 |103=>some {bg:= [.bx [] []],res:= []}
 |122=>some {bg:= [.ro, .ro, .ro],res:= []}
 |123=>some {bg:= [.ro, .ro, .ro],res:= []}
 |129=>some {bg:= [.ro, .ro, .bx [true] [true]],res:= [],ft:= [1000000037]}
 |136=>some {bg:= [.bx [] [], .ro, .ro],res:= []}
 |140=>some {bg:= [.ro, .ro],res:= [true],dp:=true}
 |146=>some {bg:= [.ro, .ro],res:= []}
 |147=>some {bg:= [.ro],res:= []}
 |162=>some {bg:= [.va [true], .ro],res:= [true]}
 |163=>some {bg:= [.va [true], .ro],res:= [true],wn:=true}
 |184=>some {bg:= [.mu [true], .ro, .ro, .ro],res:= []}
 |194=>some {bg:= [.ro, .ro, .ro],res:= []}
 |198=>some {bg:= [.mu [true], .ro],res:= []}
 |220=>some {bg:= [.ro, .ro, .ro, .ro],res:= []}
 |228=>some {bg:= [.va [true], .ro, .va [true]],res:= [true]}
 |233=>some {bg:= [.mu [true], .ro, .ro],res:= []}
 |234=>some {bg:= [.mu [true], .ro, .ro],res:= []}
 |235=>some {bg:= [.mu [true], .ro, .ro],res:= []}
 |236=>some {bg:= [.mu [true], .ro, .ro],res:= []}
 |237=>some {bg:= [.mu [true], .ro, .ro],res:= []}
 |238=>some {bg:= [.mu [true], .ro, .ro],res:= []}
 |240=>some {bg:= [.mu [true], .ro, .ro, .ro],res:= []}
 |241=>some {bg:= [.mu [true], .ro, .ro, .ro],res:= []}
 |249=>some {bg:= [.mu [true], .ro, .ro, .ro, .ro],res:= []}
 |273=>some {bg:= [.mu [true], .ro, .ro, .ro],res:= []}
 |276=>some {bg:= [.mu [true], .ro, .bx [false] [false]],res:= []}
 |277=>some {bg:= [.mu [true], .ro, .ro, .ro, .bx [false] [false]],res:= []}
 |280=>some {bg:= [.mu [true], .ro, .ro, .ro],res:= []}
 |281=>some {bg:= [.mu [true], .ro, .ro, .ro],res:= []}
 |282=>some {bg:= [.mu [true], .ro, .ro, .ro],res:= []}
 |283=>some {bg:= [.mu [true], .ro, .ro, .ro],res:= []}
 |284=>some {bg:= [.mu [true], .ro, .ro, .ro],res:= []}
 |285=>some {bg:= [.mu [true], .ro, .ro, .ro],res:= []}
 |286=>some {bg:= [.mu [true], .ro, .ro, .ro, .ro],res:= []}
 |287=>some {bg:= [.mu [true], .ro, .ro, .ro, .ro],res:= []}
 |290=>some {bg:= [.va [true], .ro],res:= [true],wn:=true}
 |305=>some {bg:= [.mu [true], .ro],res:= []}
 |307=>some {bg:= [.mu [true], .ro, .ro, .bx [false] [false]],res:= []}
 |309=>some {bg:= [.mu [true], .ro, .ro, .ro, .ro],res:= []}
 |310=>some {bg:= [.mu [true], .ro, .bx [false] [false], .ro],res:= []}
 |311=>some {bg:= [.mu [true], .ro, .ro, .ro, .bx [false] [false], .ro],res:= []}
 |320=>some {bg:= [.mu [true]],res:= []}
 |330=>some {bg:= [.mu [true], .ro, .ro, .bx [false] [false], .ro],res:= []}
 |_=>none
noncomputable def kH (f:Nat):Option Ge:=match Tryz.prog.funcs[f]? with
 |some fn=>some ((zw0 f).getD (zxO fn))
 |none=>none
noncomputable def B8:Bq:={f:=kH}
theorem zxn:Tryz.prog.follows .mixedOrders=true:=by kernel_rfl
theorem zyo:Tryz.prog.funcs.size<1000000:=by
 have:(decide (Tryz.prog.funcs.size<1000000))=true:=by kernel_rfl
 exact of_decide_eq_true this
theorem Mh (f:Nat) (s:Ge) (h:B8 f=some s):f<1000000:=by
 simp only [B8]at h;unfold kH at h;split at h
 ·rename_i fn hf;have:=(Array.getElem?_eq_some_iff.1 hf).1;exact Nat.lt_trans this zyo
 ·cases h
def Uc (P:Program) (sg:Bq) (f:Nat) (xs:List AV) (r:AV):Bool:=
 match P.funcs[f]?,sg f with
 |some fn,some s=> !(fn.name== "runtime.NumGoroutine")&&KC P fn s r&&xs.length==fn.params.size+fn.nfree
 |_,_=>false
abbrev Den (t:Tr) (r:AV) (xs:List AV):Prop:=t.den (Ca Tryz.prog B8) (fun r'=>r'=r) (fun _ _ _ _=>False) [] xs
theorem Mi {f:Nat} {t:Tr} {xs:List AV} {r:AV} (hc:Q1 Tryz.prog B8 f=some t) (hk:Uc Tryz.prog B8 f xs r=true) (hd:Den t r xs):Ca Tryz.prog B8 f xs r:=by
 unfold Uc at hk;split at hk
 ·rename_i fn s hf hs;simp only [Ac,Bool.not_eq_true',beq_iff_eq]at hk;unfold Ca;rw [if_pos (Mh f s hs)];exact⟨s,hs,zJ zxn Mh hf hs hk.1.1 hc hk.1.2 hk.2 hd⟩
 ·cases hk
section
variable {Rt:Nat→List AV→AV→Prop} {R:AV→Prop} {L:LK} {js:List JK} {ρ:List AV}
theorem w6 {i:EL} {b k:Tr} (hL:Ig L) (I:Nat→List AV→Prop) {m:Nat} (h0:I m (i.den ρ)) (Fh: ∀m vs,I m vs→b.den Rt R L ((fun us=> ∃m',m'<m∧I m' us)::(fun us=>k.den Rt R L js (ρ++us))::js) (ρ++vs)):(Tr.loop i b k).den Rt R L js ρ:=by
 have hb: ∀W W':JK,(∀vs,W vs→W' vs)→ ∀vs,b.den Rt R L (W::(fun us=>k.den Rt R L js (ρ++us))::js) (ρ++vs)→b.den Rt R L (W'::(fun us=>k.den Rt R L js (ρ++us))::js) (ρ++vs):=
  fun W W' hW vs hv=>b.fc hL hv (.cons hW (Dd.refl _))
 have mono: ∀n vs,Hs (fun W vs=>b.den Rt R L (W::(fun us=>k.den Rt R L js (ρ++us))::js) (ρ++vs)) n vs→ ∀n',n≤n'→Hs (fun W vs=>b.den Rt R L (W::(fun us=>k.den Rt R L js (ρ++us))::js) (ρ++vs)) n' vs:=by
  intro n
  induction n with
  |zero=>intro vs h;exact h.elim
  |succ n ih=>
   intro vs h n' hn;cases n' with
   |zero=>omega
   |succ n'=>exact hb _ _ (fun us hu=>ih us hu n' (by omega)) vs h
 have key: ∀m vs,I m vs→Hs (fun W vs=>b.den Rt R L (W::(fun us=>k.den Rt R L js (ρ++us))::js) (ρ++vs)) (m+1) vs:=by
  intro m
  induction m using Nat.strongRecOn with
  |_ m ih=>intro vs hI;exact hb _ _ (fun us ⟨m',hm,hu⟩=>mono _ _ (ih m' hm us hu) m (by omega)) vs (Fh m vs hI)
 exact⟨m+1,key m _ h0⟩
theorem tX:Ig (fun _ _ _ _=>False):=fun _ _ _ _ _ _ h=>h
end
@[simp] theorem zx3 (ρ:List AV):AY ρ []↔True:=⟨fun _=>trivial,fun _=>D7 ρ⟩
@[simp] theorem zxU (ρ:List AV) (x:E) (b:Bool) (gs:Gd):AY ρ ((x,b)::gs)↔x.den ρ= .bool b∧AY ρ gs:=
 ⟨fun h=>⟨h (x,b) (by simp),fun g hg=>h g (by simp [hg])⟩,fun h g hg=>by rcases Ae.1 hg with rfl|hg;exact h.1;exact h.2 g hg⟩
attribute [simp] E.den EL.den Cn.den AV.fld AV.proj AV.deref AV.len AV.slen AV.idx AV.nth AV.ee AV.im AV.conv AV.bin AV.bbin AV.sbin AV.app AV.cz AV.rep
@[simp] theorem zwz (cs:List AV):(AV.agg cs).cells=cs:=rfl
@[simp] theorem zxa (k:IntKind) (n:Int):(AV.int k n).cells= [.int k n]:=rfl
@[simp] theorem zwu (b:Bool):(AV.bool b).cells= [.bool b]:=rfl
@[simp] theorem zwC (s:List UInt8):(AV.str s).cells= [.str s]:=rfl
@[simp] theorem zxq (xs:List AV):(AV.sl xs).cells= [.sl xs]:=rfl
@[simp] theorem zww (k:IntKind) (n:Int):(AV.int k n).scalar=true:=rfl
@[simp] theorem zwe (b:Bool):(AV.bool b).scalar=true:=rfl
@[simp] theorem zwt (s:List UInt8):(AV.str s).scalar=true:=rfl
@[simp] theorem zxG (b c d:Bool):AV.cond (.bool b) (.bool c) (.bool d)= .bool (bif b then c else d):=by cases b<;>rfl
theorem zvo {y:AV} (h:y.scalar=true):y.cells= [y]:=by cases y<;>first|rfl|simp [AV.scalar]at h
theorem B3 {n:Int} (h1: -9223372036854775808≤n) (h2:n≤9223372036854775807):IntKind.i64.wrap n=n:=by rw [IntKind.wrap_i64];omega
end Go.Proofs.YtollgpkegmbpmaaGreatDoor
end
section
namespace Go.Proofs.YtollgpkegmbpmaaGreatDoor
open Go.RowKit
section
variable {Rt:Nat→List AV→AV→Prop} {R:AV→Prop} {L:LK} {js:List JK} {ρ:List AV}
theorem NL {gs:Gd} {c:Cn} {k:Tr} (h:AY ρ gs→c.den ρ) (hk:k.den Rt R L js ρ):(Tr.bu gs c k).den Rt R L js ρ:=⟨h,hk⟩
theorem x4 {gs:Gd} {f:Nat} {args:EL} {k:Tr} {r:AV} (h:AY ρ gs→Rt f (args.den ρ) r) (hk:k.den Rt R L js (ρ++ [r])):(Tr.call gs (.inl f) args k).den Rt R L js ρ:=⟨r,h,hk⟩
theorem wR {gs:Gd} {x:E} {args:EL} {k:Tr} {r:AV} (h:AY ρ gs→ ∃g caps,x.den ρ= .fn g caps∧Rt (1000000+g) (args.den ρ++caps) r∧ ∀y∈r.cells,y.scalar=true) (hk:k.den Rt R L js (ρ++ [r])):(Tr.call gs (.inr x) args k).den Rt R L js ρ:=⟨r,h,hk⟩
theorem TM {c:E} {a b:Tr} {t:Bool} (h:c.den ρ= .bool t) (ha:t=true→a.den Rt R L js ρ) (hb:t=false→b.den Rt R L js ρ):(Tr.ite c a b).den Rt R L js ρ:=⟨t,h,ha,hb⟩
theorem Yn {r:E} (h:R (r.den ρ)):(Tr.ret r).den Rt R L js ρ:=h
theorem zH {es:EL} {j:JK} (h:j (es.den ρ)):(Tr.jmp 0 es).den Rt R L (j::js) ρ:=h
theorem x5 {es:EL} {i j:JK} (h:j (es.den ρ)):(Tr.jmp 1 es).den Rt R L (i::j::js) ρ:=h
end
def hY (cn:Nat) (xs:List AV):Prop:= ∀x∈xs,∃cs,x= .agg cs∧cs.length=cn
theorem hY.at {cn:Nat} {xs:List AV} (h:hY cn xs) {q:Nat} (hq:q<xs.length): ∃cs,xs[q]= .agg cs∧cs.length=cn:=h _ (List.getElem_mem hq)
section
variable {Rt:Nat→List AV→AV→Prop} {R:AV→Prop} {L:LK} {js:List JK} {ρ:List AV} {α β σ τ:Type}
end
@[simp] def Od (n:Int):AV:= .int .u8 n
@[simp] def Dw (x:List UInt8):AV:= .str x
attribute [simp] DV NX AV.sidx AV.aeq AV.leq AV.seq AV.sk AV.cy AV.bytes AV.text
end Go.Proofs.YtollgpkegmbpmaaGreatDoor
end
section
namespace Go.Proofs.YtollgpkegmbpmaaGreatDoor
open Go.RowKit
section
variable {P:Program} {w:World}
theorem CJ.ig {ts:List TypeId} {vs:List Value} {xs:List AV} {rf lf hs:List Nat} (h:CJ P w ts [] [] vs xs rf lf hs): ∀(ms:List PM) (lo:List Bool),(∀m∈ms,m= .ro)→CJ P w ts ms lo vs xs rf lf hs:=by
 generalize hm:([]:List PM)=m0 at h;generalize hn:([]:List Bool)=n0 at h
 induction h with
 |nil=>intro ms lo _;exact .nil
 |lent h1 _ _ _ _=>subst hn;cases h1
 | @cons t ts ms' lo' v vs x xs f h rf lf hs AS _ ih=>
  subst hm;subst hn;intro ms lo DK;refine .cons ?_ (ih rfl rfl ms.tail lo.tail fun m hm=>DK m (List.mem_of_mem_tail hm));have:ms.headD .ro= .ro:=by cases ms with|nil=>rfl|cons m ms=>exact DK m (by simp)
  rw [this];exact AS
 |free h1 _ ih=>subst hm;subst hn;intro ms lo DK;exact .free h1 (ih rfl rfl ms.tail lo.tail fun m hm=>DK m (List.mem_of_mem_tail hm))
theorem CY.ig {ts:List TypeId} {ms:List PM} {vs:List Value} {Bs:List AV} {f o:List Nat} (h:CY P w ts ms vs Bs f o) (DK: ∀m∈ms,m= .ro):CY P w ts [] vs Bs f o:=by
 have hd: ∀{ms:List PM},(∀m∈ms,m= .ro)→ms.headD .ro= .ro:=by intro ms h;cases ms with|nil=>rfl|cons m ms=>exact h m (by simp)
 induction h with
 |nil=>exact .nil
 |ro _ _ ih=>exact .ro rfl (ih fun m hm=>DK m (List.mem_of_mem_tail hm))
 |va h9 _ _=>rw [hd DK]at h9;cases h9
 |mu h9 _ _ _ _=>rw [hd DK]at h9;cases h9
 |bx h9 _ _ _ _ _ _ _ _=>rw [hd DK]at h9;cases h9
end
noncomputable def Yq (f:Nat) (r:AV):Bool:=
 match Tryz.prog.funcs[f]?,B8 f with
 |some fn,some s=>s.bg.all (fun m=>match m with| .ro=>true|_=>false)&&s.ft.isEmpty&&(match fn.resultTypes.toList with| [t]=> !Fm Tryz.prog t s.res|_=>false)&&KC Tryz.prog fn {bg:= [],res:= []} r
 |_,_=>false
theorem wQ {f:Nat} {xs:List AV} {r:AV} (h:Ca Tryz.prog B8 f xs r) (hp:Yq f r=true):Ca Tryz.prog B8 (1000000+f) xs r:=by
 unfold Yq at hp;split at hp
 ·rename_i fn s hf hs;simp only [Ac,AN]at hp;obtain⟨⟨⟨h1,CK⟩,h2⟩,h3⟩:=hp;have CK:s.ft= []:=by simpa using CK
  have Hh: ∀m∈s.bg,m= .ro:=fun m hm=>by
   have:=h1 m hm;split at this
   ·rfl
   ·cases this
  unfold Ca at h ⊢;rw [if_pos (Mh f s hs)]at h;rw [if_neg (by omega),Nat.add_sub_cancel_left];obtain⟨s',AX,fn',OO,hb,hn,_,hl,_,hc⟩:=h;rw [hs]at AX;cases AX;rw [hf]at OO;cases OO;rw [CK]at hc;refine⟨fn,hf,hb,hn,h3,hl,by simp,fun w vs rf lf AX Ao hd Ri By C6=>(hc w vs rf lf AX (Ao.ig _ _ Hh) hd Ri By C6).mono ?_⟩;rintro e w' ⟨v,rfl,⟨R,Bs,f1,o1,f2,o2,e1,e2,e3,e4,e5,e6⟩,hm⟩;rw [CK]at e3;refine⟨v,rfl,⟨R,Bs,f1,o1,f2,o2,e1, ?_,e3.ig Hh,e4,e5,e6⟩,hm⟩;unfold IL at e2 ⊢;split at h2
  ·rename_i t ht;rw [ht]at e2 ⊢;simp only at e2 ⊢;unfold Dr at e2 ⊢;have h2:Fm Tryz.prog t s.res=false:=by simpa using h2
   rw [if_neg (by rw [h2];simp)]at e2;rw [if_neg (by simp [Fm])];exact e2
  ·cases h2
 ·cases hp
section
variable {Rt:Nat→List AV→AV→Prop} {R:AV→Prop} {L:LK} {js:List JK} {ρ:List AV}
theorem yO {i:EL} {b k:Tr} (hL:Ig L) (n:Nat) (st:Nat→List AV) (J:Nat→Prop) (hJ:J 0) (h0:i.den ρ=st 0) (hb: ∀q,q≤n→J q→ ∀W:JK,(q<n→J (q+1)→W (st (q+1)))→b.den Rt R L (W::(fun us=>k.den Rt R L js (ρ++us))::js) (ρ++st q)):(Tr.loop i b k).den Rt R L js ρ:=by refine w6 hL (fun m vs=> ∃q,q+m=n∧vs=st q∧J q) (m:=n) ⟨0,by omega,h0,hJ⟩ ?_;rintro m vs ⟨q,hq,rfl,hj⟩;exact hb q (by omega) hj _ fun Au Iq=>⟨m-1,by omega,q+1,by omega,rfl,Iq⟩
end
def QR (cn:Nat):Tr:=
 .bu [] (.dfd (.len (.var 0)))<|
 .loop (.cons (.int .i64 (0)) .nil) (
  .bu [] (.dfd (.bin .lss (.var 2) (.len (.var 0))))<|
  .ite (.bin .lss (.var 2) (.len (.var 0))) (
  .bu [] (.inb (.var 2) (.var 0) cn)<|
  .call [] (.inr (.var 1)) (.cons (.fld (.idx (.var 0) (.var 2)) 0 cn true) .nil)<|
  .ite (.var 3) (
   .ret (.var 2)) (
   .bu [] (.dfd (.bin .add (.var 2) (.int .i64 (1))))<|
   .jmp 0 (.cons (.bin .add (.var 2) (.int .i64 (1))) .nil))) (
  .jmp 1 .nil)) (
  .ret (.int .i64 (-1)))
def KR {α:Type} (p:α→Option Bool):List α→Int→Option Int
 | [],_=>some (-1)
 |x::xs,i=>(p x).bind fun b=>if b=true then some i else KR p xs (i+1)
noncomputable def L1 {α:Type} (xs:List α) (p:α→Option Bool):Option Int:=req (xs.length≤9223372036854775806) (KR p xs 0)
noncomputable def GO {α:Type} (xs:List α) (p:α→Option Bool):Option Bool:=(L1 xs p).bind fun i=>some (decide (i≥0))
theorem wW {α:Type} {p:α→Option Bool} {l:List α} {r:Int} {q:Nat} (hq:q<l.length) (h:KR p (l.drop q) q=some r): ∃b,p l[q]=some b∧(b=true→r=q)∧(b=false→KR p (l.drop (q+1)) ((q+1:Nat):Int)=some r):=by
 rw [List.drop_eq_getElem_cons hq]at h;obtain⟨b,hb,h⟩:=N8 h;refine⟨b,hb, ?_, ?_⟩
 ·rintro rfl;simpa using h.symm
 ·rintro rfl;simpa using h
theorem Yi {α:Type} {av:α→AV} {l:List α} {p:α→Option Bool} {cn g:Nat} {caps:List AV} {r:Int} (hs: ∀x,∃cs,av x= .agg cs∧cs.length=cn) (h:L1 l p=some r) (hf: ∀x b,p x=some b→Ca Tryz.prog B8 (1000000+g) (av x::caps) (.bool b)):Den (QR cn) (.int .i64 r) [.sl (l.map av), .fn g caps]:=by
 obtain⟨hn,h⟩:=Ii h;unfold Den QR;refine NL (by simp) ?_;refine yO tX l.length (fun q=> [.int .i64 q]) (fun q=>KR p (l.drop q) q=some r) (by simpa using h) (by simp) fun q hq hJ W hW=> ?_;by_cases Au:q<l.length
 ·obtain⟨cs,hc,hl⟩:=hs l[q];obtain⟨b,hb,Hy,Ip⟩:=wW Au hJ;refine NL (by simp [DV]) (TM (t:=true) (by simp [DV,Au]) (fun _=> ?_) (by simp));refine NL (fun _=>⟨.i64,q,l.length,by simp,by omega,by simp,by omega,by simp [Au,hc,hl]⟩) (wR (r:= .bool b) (fun _=>⟨g,caps,by simp, ?_,by simp⟩) ?_)
  ·have:=hf l[q] b hb;rw [hc]at this;simpa [Au,hc,←hl]using this
  ·cases b with
   |true=>exact TM (t:=true) (by simp) (fun _=>Yn (by simp [Hy rfl])) (by simp)
   |false=>refine TM (t:=false) (by simp) (by simp) fun _=>NL (by simp [DV]) (zH ?_);have:=hW Au (Ip rfl);simpa [DV,B3 (n:=(q:Int)+1) (by omega) (by omega)]using this
 ·have Is:q=l.length:=by omega
  subst Is;have hr:r= -1:=by simpa [KR]using hJ.symm
  refine NL (by simp [DV]) (TM (t:=false) (by simp [DV]) (by simp) fun _=>x5 ?_);exact Yn (by simp [hr])
def QM (f:Nat):Tr:=
 .call [] (.inl f) (.cons (.var 0) (.cons (.var 1) .nil))<|
 .bu [] (.dfd (.bin .geq (.var 2) (.int .i64 (0))))<|
 .ret (.bin .geq (.var 2) (.int .i64 (0)))
theorem Ym {α:Type} {l:List α} {p:α→Option Bool} {f:Nat} {x y:AV} {r:Bool} (h:GO l p=some r) (hf: ∀i,L1 l p=some i→Ca Tryz.prog B8 f [x,y] (.int .i64 i)):Den (QM f) (.bool r) [x,y]:=by obtain⟨i,hi,h⟩:=N8 h;unfold Den QM;refine x4 (fun _=>by simpa using hf i hi) (NL (by simp [DV]) (Yn ?_));simp only [Ad]at h;simp [DV,←h]
end Go.Proofs.YtollgpkegmbpmaaGreatDoor
end
section
namespace Go.Proofs.YtollgpkegmbpmaaGreatDoor
open Go.ChangeShapes Go.WideShapes Go.ChangeAt Go.RowKit
theorem yZ {P:Program} {w:World}:CJ P w [] [] [] [] [] [] [] []:= .nil
theorem dO {P:Program} {w:World} {t:TypeId} {ts:List TypeId} {v:Value} {vs:List Value} {x:AV} {xs:List AV} {f rf:List Nat} (h:Rd w [v] [x] f) (k:CJ P w ts [] [] vs xs rf [] []):CJ P w (t::ts) [] [] (v::vs) (x::xs) (f++rf) [] []:=
 CJ.cons (h:= []) (hs:= []) (ms:= []) (lo:= []) ⟨h,rfl⟩ k
theorem zD {P:Program} {sg:Bq} {f:Nat} {fn:Func} {t:TypeId} {xs:List AV} (h:Ca P sg f xs (.bool true)) (hf:f<1000000) {s:Ge} (hs:sg f=some s) (CK:s.ft= []) (Hh: ∀m∈s.bg,m= .ro) (D4:Fm P t s.res=false) (FM:P.funcs[f]?=some fn) (hr:fn.resultTypes.toList= [t])
  {w:World} {vs:List Value} {rf:List Nat} (ha:CJ P w fn.params.toList [] [] vs xs rf [] []) (C6:EN.n≤w.heap.size∧EN.K w):
  Calls P f vs.toArray w fun e w'=>e= .returned (.bool true)∧Below w.heap.size w w':=by
 unfold Ca at h;rw [if_pos hf]at h;obtain⟨s',AX,fn',HD,_,_,_,_,_,hc⟩:=h;rw [hs]at AX;obtain rfl:=Option.some.inj AX;rw [FM]at HD;obtain rfl:=Option.some.inj HD;refine(hc w vs rf [] [] (by rw [CK,List.append_nil];exact ha.ig _ _ Hh) (by simp) (by simp) (by simp) ⟨C6.1,C6.2,by simp⟩).mono fun e w' ⟨v,he,hp⟩=> ?_;obtain⟨⟨R,bs,f1,o1,f2,o2,hR,AK,_⟩,hm⟩:=hp;have lL:R= .bool true:=by
  cases bs with
  |nil=>exact hR.symm
  |cons=>cases hR
 subst lL;rw [hr]at AK;have h2:Dr P w' t s.res v (.bool true) f1 o1:=AK;unfold Dr at h2;rw [D4]at h2;obtain⟨h3,_⟩:=h2;have:v= .bool true:=by cases h3;rfl
 subst this;exact⟨he,hm.below⟩
section
variable {P:Program} {t:TypeId} {Q:List AV→Prop} {H:Type} {enc:TypeId × Value→H} {w:World} {spare:Nat→Bool} {held:Bool} {v:Value} {d:DataW H} {p:List MemPlace} {r:Reach} {base:Nat}
theorem z7 (hO:Gc P t Q) (hc:v.cells= #[v]) (h:DataW.Trod enc P w 0 spare held t v d p): ∃x f,Rd w [v] [x] f∧Q [x]:=by
 obtain⟨n,h⟩:=h;rw [hc]at h;obtain⟨_,_,xs,f,hr,hq⟩:=hO.2 _ _ _ _ _ _ _ _ h;have hl:=hr.len
 match xs,hl with
 | [x],_=>exact⟨x,f,hr,hq⟩
theorem eD {e:TypeId} (hO:Gc P t Q) (ht:P.underlying t=some (.slice e)) (hv:Value.okWide P w r base t v) (h:DataW.Trod enc P w 0 spare held t v d p): ∃x f,Rd w [v] [x] f∧Q [x]:=by obtain⟨a,l,c,rfl⟩:=okWide_slice ht hv;exact z7 hO rfl h
end
theorem zw3 {a b:Bool} (ha:a=true) (hb:b=true):(a&&b)=true:=by rw [ha,hb];rfl
def Mt (n:Int):Prop:=0≤n∧n≤255
def RM {α:Type} (ok:α→Prop) (l:List α):Prop:=l.length≤9223372036854775807∧ ∀x∈l,ok x
theorem zyl {n:Int} (h:DA .u8 n):Mt n:=by unfold DA at h;simp only [IntKind.wrap,IntKind.bits,IntKind.signed]at h;unfold Mt;simp at h;omega
section
variable {P:Program} {t e:TypeId} {α:Type} {ok:α→Prop} {av:α→AV}
theorem zye (ht:P.underlying t=some (.int .u8)) (hc:P.cellsOf t=1):Gc P t fun xs=> ∃n,Mt n∧xs= [Od n]:=
 (zvy ht hc).mono fun _ ⟨n,h,e⟩=>⟨n,zyl h,e⟩
theorem eY: ∀{ys:List AV},(∀y∈ys,Il false (fun xs=> ∃c,ok c∧xs= [av c]) y)→ ∃l:List α,(∀c∈l,ok c)∧ys=l.map av
 | [],_=>⟨[],by simp,rfl⟩
 |y::ys,h=>by obtain⟨l,hl,rfl⟩:=eY fun z hz=>h z (List.mem_cons_of_mem _ hz);have h0:=h y (List.mem_cons_self ..);simp only [Il,A9,if_false]at h0;obtain⟨_,c,hk,hc⟩:=h0;exact⟨c::l,by simpa using⟨hk,hl⟩,by simp at hc;simp [hc]⟩
theorem zxV (ht:P.underlying t=some (.slice e)) (hc:P.cellsOf t=1) (JW:P.cellsOf e=1) (he:Gc P e fun xs=> ∃c,ok c∧xs= [av c]):Gc P t fun xs=> ∃l:List α,RM ok l∧xs= [.sl (l.map av)]:=
 (uK false ht hc he (.inr JW)).mono fun _ ⟨ys,hl,hy,e⟩=>by obtain⟨l,hk,rfl⟩:=eY hy;exact⟨l,⟨by simpa using hl,hk⟩,e⟩
end
end Go.Proofs.YtollgpkegmbpmaaGreatDoor
end
section
namespace Go.Proofs.YtollgpkegmbpmaaGreatDoor
open Go.RowKit
set_option maxRecDepth 100000
structure Ag where
 ab:List UInt8
 ak:List UInt8
 bd:Bool
@[simp] def zZ (x:Ag):AV:= .agg [.str x.ab, .str x.ak, .bool x.bd]
structure AO where
 ao:List Int
 cw:Int
 au:Int
@[simp] def zwc (x:AO):AV:= .agg [.sl (x.ao.map Od), .int .i64 x.cw, .int .u64 x.au]
structure Ap where
 ae:Int
 ab:List UInt8
 ak:List UInt8
 cf:Int
@[simp] def zyr (x:Ap):AV:= .agg [.int .i64 x.ae, .str x.ab, .str x.ak, .int .i64 x.cf]
structure As where
 ab:List UInt8
 ak:List UInt8
 a7:Bool
@[simp] def zxz (x:As):AV:= .agg [.str x.ab, .str x.ak, .bool x.a7]
structure Cq where
 aw:List UInt8
 da:Int
 b8:Int
@[simp] def kO (x:Cq):AV:= .agg [.str x.aw, .int .i64 x.da, .int .i64 x.b8]
structure A7 where
 aw:List UInt8
 cr:List (List UInt8)
 bq:List Cq
@[simp] def zwb (x:A7):AV:= .agg [.str x.aw, .sl (x.cr.map Dw), .sl (x.bq.map kO)]
structure Dq where
 bm:List (List UInt8)
@[simp] def zxX (x:Dq):AV:= .agg [.sl (x.bm.map Dw)]
structure DU where
 ae:Int
 c7:Dq
 cu:Dq
@[simp] def yN (x:DU):AV:= .agg [.int .i64 x.ae, .sl (x.c7.bm.map Dw), .sl (x.cu.bm.map Dw)]
structure kE where
 ae:Int
 jh:DU
 ml:List UInt8
 mv:List UInt8
 l7:List UInt8
@[simp] def zwV (x:kE):AV:= .agg [.int .i64 x.ae, .int .i64 x.jh.ae, .sl (x.jh.c7.bm.map Dw), .sl (x.jh.cu.bm.map Dw), .str x.ml, .str x.mv, .str x.l7]
end Go.Proofs.YtollgpkegmbpmaaGreatDoor
end
section
namespace Go.Proofs.YtollgpkegmbpmaaGreatDoor
open Go.ChangeShapes Go.WideShapes Go.ChangeAt Go.RowKit
set_option maxRecDepth 100000
theorem nZ:Gc Tryz.prog 5 fun xs=> ∃n,Mt n∧xs= [Od n]:=zye Tryz.underlying5 (by kernel_rfl)
theorem ZL:Gc Tryz.prog 22 fun xs=> ∃l:List Int,RM Mt l∧xs= [.sl (l.map Od)]:=zxV Tryz.underlying22 (by kernel_rfl) (by kernel_rfl) nZ
end Go.Proofs.YtollgpkegmbpmaaGreatDoor
end
section
namespace Go.Proofs.YtollgpkegmbpmaaGreatDoor
open Go.RowKit
set_option maxRecDepth 100000
section
variable {Rt:Nat→List AV→AV→Prop} {R:AV→Prop} {L:LK} {js:List JK} {ρ:List AV}
end
abbrev kW:Nat→List AV→AV→Prop:=Ca Tryz.prog B8
@[reducible] def Ob:Nat→Type
 |0=>Ag
 |1=>AO
 |2=>Ap
 |3=>As
 |4=>Cq
 |5=>A7
 |6=>Dq
 |7=>DU
 |8=>kE
 |_+9=>Unit
@[reducible] def Ua:Nat→List Ty
 |0=> [.s, .s, .b]
 |1=> [.l (.i .u8), .i .i64, .i .u64]
 |2=> [.i .i64, .s, .s, .i .i64]
 |3=> [.s, .s, .b]
 |4=> [.s, .i .i64, .i .i64]
 |5=> [.s, .l .s, .l (.st 4)]
 |6=> [.l .s]
 |7=> [.i .i64, .l .s, .l .s]
 |8=> [.i .i64, .i .i64, .l .s, .l .s, .s, .s, .s]
 |_+9=> []
def V8: ∀n,Ob n→AV
 |0,x=>zZ x
 |1,x=>zwc x
 |2,x=>zyr x
 |3,x=>zxz x
 |4,x=>kO x
 |5,x=>zwb x
 |6,x=>zxX x
 |7,x=>yN x
 |8,x=>zwV x
 |_+9,_=> .agg []
def Y3: ∀n,Ob n→HL Ob (Ua n)
 |0,x=>(x.ab,x.ak,x.bd,())
 |1,x=>(x.ao,x.cw,x.au,())
 |2,x=>(x.ae,x.ab,x.ak,x.cf,())
 |3,x=>(x.ab,x.ak,x.a7,())
 |4,x=>(x.aw,x.da,x.b8,())
 |5,x=>(x.aw,x.cr,x.bq,())
 |6,x=>(x.bm,())
 |7,x=>(x.ae,x.c7.bm,x.cu.bm,())
 |8,x=>(x.ae,x.jh.ae,x.jh.c7.bm,x.jh.cu.bm,x.ml,x.mv,x.l7,())
 |_+9,_=>()
def ZM: ∀n,HL Ob (Ua n)→Ob n
 |0,x=>⟨x.1,x.2.1,x.2.2.1⟩
 |1,x=>⟨x.1,x.2.1,x.2.2.1⟩
 |2,x=>⟨x.1,x.2.1,x.2.2.1,x.2.2.2.1⟩
 |3,x=>⟨x.1,x.2.1,x.2.2.1⟩
 |4,x=>⟨x.1,x.2.1,x.2.2.1⟩
 |5,x=>⟨x.1,x.2.1,x.2.2.1⟩
 |6,x=>⟨x.1⟩
 |7,x=>⟨x.1,⟨x.2.1⟩,⟨x.2.2.1⟩⟩
 |8,x=>⟨x.1,⟨x.2.1,⟨x.2.2.1⟩,⟨x.2.2.2.1⟩⟩,x.2.2.2.2.1,x.2.2.2.2.2.1,x.2.2.2.2.2.2.1⟩
 |_+9,_=>()
theorem zwG: ∀n x,V8 n x= .agg (GC V8 (Ua n) (Y3 n x))
 |0,_=>rfl
 |1,_=>rfl
 |2,_=>rfl
 |3,_=>rfl
 |4,_=>rfl
 |5,_=>rfl
 |6,_=>rfl
 |7,_=>rfl
 |8,_=>rfl
 |_+9,_=>rfl
theorem zR: ∀n h,Y3 n (ZM n h)=h
 |0,_=>rfl
 |1,_=>rfl
 |2,_=>rfl
 |3,_=>rfl
 |4,_=>rfl
 |5,_=>rfl
 |6,_=>rfl
 |7,_=>rfl
 |8,_=>rfl
 |_+9,_=>rfl
@[reducible] def tab:Hb:=⟨kW,Ob,V8,Ua,Y3,ZM,zwG,zR⟩
abbrev FS:=FN tab
noncomputable def V9 (tb:List FS) (hs:List JM) (o:Option Tr) (ps:List PT) (r:RT) (xs:HP tab.car ps) (hp:Gb tab ps xs):Option (EW tab.car r):=match o with
 |some t=>BU tb 100000 (MP r) t hs (RP ps xs hp) [] []
 |none=>none
theorem YV {f:Nat} {ps:List PT} {r:RT} {φ:HP tab.car ps→Option (EW tab.car r)} (tb:List FS) (hs:List JM) (h: ∀xs hp,V9 tb hs (Q1 Tryz.prog B8 f) ps r xs hp=φ xs) (hk: ∀xs y,Uc Tryz.prog B8 f (EC tab ps xs) (ER tab r y)=true) (xs:HP tab.car ps) (y:EW tab.car r) (hp:Gb tab ps xs) (e:φ xs=some y):tab.Rt f (EC tab ps xs) (ER tab r y):=by
 rw [←h xs hp]at e;unfold V9 at e;split at e
 ·rename_i t ht;refine Mi ht (hk xs y) ?_;unfold Den;rw [←iD ps xs hp];exact DS tb 100000 (fa:= []) (fun _ h=>nomatch h) (fun _ h=>nomatch h) (fun v hv=>Yc r hv) .nil e
 ·cases e
noncomputable def AG (f:Nat) (ps:List PT) (r:RT) (φ:HP tab.car ps→Option (EW tab.car r)) (tb:List FS) (hs:List JM) (h: ∀xs hp,V9 tb hs (Q1 Tryz.prog B8 f) ps r xs hp=φ xs:=by intro _ _;kernel_rfl) (hk: ∀xs y,Uc Tryz.prog B8 f (EC tab ps xs) (ER tab r y)=true:=by intro _ _;kernel_rfl):FS:=
 ⟨f,ps,r,φ,fun xs y hp e=>YV tb hs h hk xs y hp e,false,fun h=>by cases h⟩
noncomputable def PB (d:FS) (h: ∀y,Yq d.f (ER tab d.r y)=true):FS:=
 ⟨d.f,d.ps,d.r,d.φ,d.ok,true,fun _ xs y hx e=>wQ (d.ok xs y hx e) (h y)⟩
noncomputable def Fw (f:Nat) (ps:List PT) (r:RT) (φ:HP tab.car ps→Option (EW tab.car r)) (ok: ∀xs y,Gb tab ps xs→φ xs=some y→tab.Rt f (EC tab ps xs) (ER tab r y)):FS:=⟨f,ps,r,φ,ok,false,fun h=>by cases h⟩
end Go.Proofs.YtollgpkegmbpmaaGreatDoor
end
section
namespace Go.Proofs.YtollgpkegmbpmaaGreatDoor
open Go.RowKit
theorem CJ.rd {P:Program} {w:World} {ts:List TypeId} {ms:List PM} {lo:List Bool} {vs:List Value} {xs:List AV} {rf lf hs:List Nat} (h:CJ P w ts ms lo vs xs rf lf hs):lo= []→(∀m∈ms,m= .ro)→Rd w vs xs rf∧hs= []:=by
 induction h with
 |nil=>intro _ _;exact⟨.nil,rfl⟩
 |lent h1 _ _ _ _=>intro BD;subst BD;cases h1
 | @cons t ts ms lo v vs x xs f h rf lf hs AS _ ih=>
  intro BD DK;subst BD;obtain⟨h1,rfl⟩:=ih rfl fun m hm=>DK m (List.mem_of_mem_tail hm);have Hh:ms.headD .ro= .ro:=by
   cases ms with
   |nil=>rfl
   |cons m ms=>exact DK m (by simp)
  rw [Hh]at AS;obtain⟨h2,h3⟩:Rd w [v] [x] f∧h= []:=AS;subst h3;exact⟨by simpa using h2.app h1,rfl⟩
 |free h1 _ ih=>intro BD DK;subst BD;obtain⟨h2,rfl⟩:=ih rfl fun m hm=>DK m (List.mem_of_mem_tail hm);exact⟨by simpa using h1.app h2,rfl⟩
theorem CY.ja {P:Program} {w:World}: ∀{ts:List TypeId} {ms:List PM} {vs:List Value},vs.length=ts.length→(∀m∈ms,m= .ro)→CY P w ts ms vs [] [] []
 | [],_,vs,_,_=> .nil
 |t::ts,ms, [],h,_=>by simp at h
 |t::ts,ms,v::vs,h,DK=>by
  refine .ro ?_ (CY.ja (by simpa using h) fun m hm=>DK m (List.mem_of_mem_tail hm));cases ms with
  |nil=>rfl
  |cons m ms=>exact DK m (by simp)
def YY (P:Program) (sg:Bq) (f np:Nat) (r:AV):Bool:=
 match P.funcs[f]?,sg f with
 |some fn,some s=>fn.body.isSome&& !(fn.name== "runtime.NumGoroutine")&&KC P fn s r&&s.bg.all (fun m=>match m with| .ro=>true|_=>false)&&fn.params.size==np&&fn.nfree==0&&(s.ft.isEmpty&&s.lo.isEmpty)&&(match fn.resultTypes.toList with| [t]=> !Fm P t s.res|_=>false)
 |_,_=>false
theorem gS {f:Nat} {xs:List AV} {r:AV} (hk:YY Tryz.prog B8 f xs.length r=true) (hc: ∀(w:World) (vs:List Value) (rf:List Nat),EN.K w→Rd w vs xs rf→Calls Tryz.prog f vs.toArray w fun e w'=>Mod [] w w'∧ ∃v f1,e= .returned v∧Rd w' [v] [r] f1∧ ∀b∈f1,b∈rf∨w.heap.size≤b):Ca Tryz.prog B8 f xs r:=by
 unfold YY at hk;split at hk
 ·rename_i fn s hf hs;simp only [Ac,Bool.not_eq_true',beq_iff_eq,AN]at hk;obtain⟨⟨⟨⟨⟨⟨⟨h1,h2⟩,h3⟩,h4⟩,h5⟩,h6⟩,CK⟩,h7⟩:=hk;obtain⟨CK,BD⟩:s.ft= []∧s.lo= []:=by simpa using CK
  have Hh: ∀m∈s.bg,m= .ro:=fun m hm=>by
   have:=h4 m hm;split at this
   ·rfl
   ·cases this
  unfold Ca;rw [if_pos (Mh f s hs)];refine⟨s,hs,fn,hf,h1,h2,h3,by omega,by simp [CK],fun w vs rf lf AX Ao hd _ By C6=> ?_⟩;obtain⟨hr,rfl⟩:=Ao.rd BD Hh;refine(hc w vs rf C6.2.1 hr).mono ?_;rintro e w' ⟨hm,v,f1,rfl,hv,hb⟩;refine⟨v,rfl,⟨⟨r, [],f1, [], [], [],rfl, ?_,CY.ja ?_ Hh,by simp,by simp,fun b BC=>⟨by simp, ?_⟩⟩,hm⟩⟩
  ·unfold IL;split at h7
   ·rename_i t ht;rw [ht];show Dr Tryz.prog w' t s.res v r f1 [];unfold Dr;rw [if_neg (by rw [Bool.not_eq_true];simpa using h7)];exact⟨hv,rfl⟩
   ·cases h7
  ·rw [hr.len];simp [CK];omega
  ·rcases hb b (by simpa using BC)with h|h
   ·exact .inl h
   ·exact .inr (.inr h)
 ·cases hk
theorem gW {f:Nat} {xs:List AV} {r:AV} (hk:YY Tryz.prog B8 f xs.length r=true) (hc: ∀(w:World) (vs:List Value) (rf:List Nat),Rd w vs xs rf→Calls Tryz.prog f vs.toArray w fun e w'=>Mod [] w w'∧ ∃v f1,e= .returned v∧Rd w' [v] [r] f1∧ ∀b∈f1,b∈rf∨w.heap.size≤b):Ca Tryz.prog B8 f xs r:=
 gS hk fun w vs rf _ hr=>hc w vs rf hr
theorem YC {w:World} {s:List UInt8} {vs:List Value} {xs:List AV} {f:List Nat} (h:Rd w vs (.str s::xs) f): ∃(b:ByteArray) (us:List Value),vs= .string b::us∧b.data.toList=s∧b.size≤9223372036854775807∧Rd w us xs f:=by
 cases h with
 |str a h=>exact⟨_,_,rfl,rfl,a,h⟩
theorem NQ {w:World} {k:IntKind} {n:Int} {vs:List Value} {xs:List AV} {f:List Nat} (h:Rd w vs (.int k n::xs) f): ∃us:List Value,vs= .int k n::us∧DA k n∧Rd w us xs f:=by
 cases h with
 |int a h=>exact⟨_,rfl,a,h⟩
theorem ND {w:World} {vs:List Value} {f:List Nat} (h:Rd w vs [] f):vs= []∧f= []:=by cases h;exact⟨rfl,rfl⟩
end Go.Proofs.YtollgpkegmbpmaaGreatDoor
end
section
namespace Go.Proofs
open Go.Shelf
def Tryz.gi:Go.Shelf.Ren:=⟨fun|125=>185|128=>242|129=>243|n=>n,fun|46=>198|3=>3|51=>241|53=>107|4=>4|5=>5|9=>9|n=>n,fun|n=>n⟩
theorem Tryz.ki:Go.Proofs.Lays.n125 Tryz.prog Tryz.gi:={
 mixed:=by kernel_rfl
 f125:=Tryz.func185.trans (congrArg some (by kernel_rfl))
 f128:=Tryz.func242.trans (congrArg some (by kernel_rfl))
 f129:=Tryz.func243.trans (congrArg some (by kernel_rfl))
 t3:=Tryz.underlying3
 a3:=Tryz.isAgg3
 z3:=Tryz.sizeOf3
 v3:=Tryz.zeroValue3
 t4:=Tryz.underlying4
 a4:=Tryz.isAgg4
 z4:=Tryz.sizeOf4
 v4:=Tryz.zeroValue4
 t5:=Tryz.underlying5
 a5:=Tryz.isAgg5
 z5:=Tryz.sizeOf5
 v5:=Tryz.zeroValue5
 t9:=Tryz.underlying9
 a9:=Tryz.isAgg9
 z9:=Tryz.sizeOf9
 v9:=Tryz.zeroValue9
 t46:=Tryz.underlying198
 a46:=Tryz.isAgg198
 z46:=Tryz.sizeOf198
 v46:=Tryz.zeroValue198
 t51:=Tryz.underlying241
 a51:=Tryz.isAgg241
 z51:=Tryz.sizeOf241
 v51:=Tryz.zeroValue241
 t53:=Tryz.underlying107
 a53:=Tryz.isAgg107
 z53:=Tryz.sizeOf107
 v53:=Tryz.zeroValue107}
theorem Tryz.bits_Len (x:Int) (w:World) (h0:0≤x) (h1:x≤18446744073709551615):
  Calls Tryz.prog 185 #[.int .u64 x] w fun e w'=>e= .returned (.int .i64 (Lib.bitLen x.toNat))∧w'=w:=Any.bits_Len Tryz.ki x w h0 h1
def Tryz.kq:Go.Shelf.Ren:=⟨fun|137=>253|217=>288|266=>312|n=>n,fun|9=>9|5=>5|3=>3|n=>n,fun|n=>n⟩
def Tryz.kt:Go.Shelf.Ren:=⟨fun|172=>271|244=>301|245=>302|247=>321|279=>322|280=>323|281=>324|282=>325|287=>332|316=>333|171=>183|205=>334|321=>337|322=>338|243=>232|246=>272|283=>303|284=>304|285=>305|286=>306|129=>243|317=>326|318=>327|319=>328|320=>329|337=>335|338=>336|n=>n,fun|9=>9|3=>3|75=>257|76=>258|4=>4|5=>5|167=>297|37=>22|0=>0|85=>298|2=>2|168=>300|53=>107|175=>313|46=>198|210=>316|127=>279|145=>321|143=>319|21=>21|171=>284|173=>286|212=>304|51=>241|20=>20|213=>305|232=>322|233=>323|80=>134|n=>n,fun|15=>4|16=>5|17=>1|18=>6|19=>7|n=>n⟩
def Tryz.j4:Go.Shelf.Ren:=⟨fun|246=>272|283=>303|284=>304|285=>305|286=>306|129=>243|317=>326|318=>327|319=>328|320=>329|337=>335|338=>336|n=>n,fun|2=>2|3=>3|9=>9|4=>4|171=>284|0=>0|53=>107|37=>22|5=>5|173=>286|212=>304|51=>241|20=>20|213=>305|46=>198|232=>322|233=>323|n=>n,fun|17=>1|18=>6|19=>7|n=>n⟩
def Tryz.kj:Go.Shelf.Ren:=⟨fun|243=>232|246=>272|283=>303|284=>304|285=>305|286=>306|129=>243|317=>326|318=>327|319=>328|320=>329|337=>335|338=>336|n=>n,fun|3=>3|9=>9|2=>2|4=>4|171=>284|0=>0|53=>107|37=>22|5=>5|173=>286|212=>304|51=>241|20=>20|213=>305|46=>198|232=>322|233=>323|n=>n,fun|17=>1|18=>6|19=>7|n=>n⟩
def Tryz.fg:Go.Shelf.Ren:=⟨fun|171=>183|243=>232|246=>272|283=>303|284=>304|285=>305|286=>306|129=>243|317=>326|318=>327|319=>328|320=>329|337=>335|338=>336|n=>n,fun|3=>3|9=>9|2=>2|4=>4|171=>284|0=>0|53=>107|37=>22|5=>5|173=>286|212=>304|51=>241|20=>20|213=>305|46=>198|232=>322|233=>323|n=>n,fun|17=>1|18=>6|19=>7|n=>n⟩
theorem Tryz.iw:Go.Proofs.LaysM.n171 Tryz.prog Tryz.fg:={
 mixed:=by kernel_rfl
 f129:=Tryz.func243.trans (congrArg some (by kernel_rfl))
 f171:=Tryz.func183.trans (congrArg some (by kernel_rfl))
 f243:=Tryz.func232.trans (congrArg some (by kernel_rfl))
 f246:=Tryz.func272.trans (congrArg some (by kernel_rfl))
 f283:=Tryz.func303.trans (congrArg some (by kernel_rfl))
 f284:=Tryz.func304.trans (congrArg some (by kernel_rfl))
 f285:=Tryz.func305.trans (congrArg some (by kernel_rfl))
 f286:=Tryz.func306.trans (congrArg some (by kernel_rfl))
 f317:=Tryz.func326.trans (congrArg some (by kernel_rfl))
 f318:=Tryz.func327.trans (congrArg some (by kernel_rfl))
 f319:=Tryz.func328.trans (congrArg some (by kernel_rfl))
 f320:=Tryz.func329.trans (congrArg some (by kernel_rfl))
 f337:=Tryz.func335.trans (congrArg some (by kernel_rfl))
 f338:=Tryz.func336.trans (congrArg some (by kernel_rfl))
 t0:=Tryz.underlying0
 a0:=Tryz.isAgg0
 z0:=Tryz.sizeOf0
 v0:=Tryz.zeroValue0
 t2:=Tryz.underlying2
 a2:=Tryz.isAgg2
 z2:=Tryz.sizeOf2
 v2:=Tryz.zeroValue2
 t3:=Tryz.underlying3
 a3:=Tryz.isAgg3
 z3:=Tryz.sizeOf3
 v3:=Tryz.zeroValue3
 t4:=Tryz.underlying4
 a4:=Tryz.isAgg4
 z4:=Tryz.sizeOf4
 v4:=Tryz.zeroValue4
 t5:=Tryz.underlying5
 a5:=Tryz.isAgg5
 z5:=Tryz.sizeOf5
 v5:=Tryz.zeroValue5
 t9:=Tryz.underlying9
 a9:=Tryz.isAgg9
 z9:=Tryz.sizeOf9
 v9:=Tryz.zeroValue9
 t20:=Tryz.underlying20
 a20:=Tryz.isAgg20
 z20:=Tryz.sizeOf20
 v20:=Tryz.zeroValue20
 t37:=Tryz.underlying22
 a37:=Tryz.isAgg22
 z37:=Tryz.sizeOf22
 v37:=Tryz.zeroValue22
 t46:=Tryz.underlying198
 a46:=Tryz.isAgg198
 z46:=Tryz.sizeOf198
 v46:=Tryz.zeroValue198
 t51:=Tryz.underlying241
 a51:=Tryz.isAgg241
 z51:=Tryz.sizeOf241
 v51:=Tryz.zeroValue241
 t53:=Tryz.underlying107
 a53:=Tryz.isAgg107
 z53:=Tryz.sizeOf107
 v53:=Tryz.zeroValue107
 t171:=Tryz.underlying284
 a171:=Tryz.isAgg284
 z171:=Tryz.sizeOf284
 v171:=Tryz.zeroValue284
 t173:=Tryz.underlying286
 a173:=Tryz.isAgg286
 z173:=Tryz.sizeOf286
 v173:=Tryz.zeroValue286
 t212:=Tryz.underlying304
 a212:=Tryz.isAgg304
 z212:=Tryz.sizeOf304
 v212:=Tryz.zeroValue304
 t213:=Tryz.underlying305
 a213:=Tryz.isAgg305
 z213:=Tryz.sizeOf305
 t232:=Tryz.underlying322
 a232:=Tryz.isAgg322
 z232:=Tryz.sizeOf322
 v232:=Tryz.zeroValue322
 t233:=Tryz.underlying323
 a233:=Tryz.isAgg323
 z233:=Tryz.sizeOf323
 v233:=Tryz.zeroValue323
 g17:=by kernel_rfl
 g18:=by kernel_rfl
 g19:=by kernel_rfl
 i0:=by kernel_rfl
 i2:=by kernel_rfl
 i3:=by kernel_rfl
 i4:=by kernel_rfl
 i5:=by kernel_rfl
 i9:=by kernel_rfl
 i20:=by kernel_rfl
 i37:=by kernel_rfl
 i46:=by kernel_rfl
 i51:=by kernel_rfl
 i53:=by kernel_rfl
 i171:=by kernel_rfl
 i173:=by kernel_rfl
 i212:=by kernel_rfl
 i232:=by kernel_rfl
 i233:=by kernel_rfl
 m17:=by kernel_rfl
 m18:=by kernel_rfl
 m19:=by kernel_rfl}
open Go.RowKit Go.Sort Go.Lib in
theorem Tryz.strconv_Itoa (n:Int) (h0: -9223372036854775808≤n) (h1:n≤9223372036854775807) (w:World) (VT:Lib.TabIs Tryz.prog w "internal/strconv.uint64pow10" .u64 Lib.pow10Tab):
  Calls Tryz.prog 183 #[.int .i64 n] w fun e w'=>e= .returned (.string ⟨(Lib.itoa n).toArray⟩)∧ ∃k os,w'=grow (w.drewN k) os:=Any.strconv_Itoa Tryz.iw n h0 h1 w VT
def Tryz.fm:Go.Shelf.Ren:=⟨fun|172=>271|244=>301|245=>302|247=>321|279=>322|280=>323|281=>324|282=>325|287=>332|316=>333|171=>183|205=>334|321=>337|322=>338|243=>232|246=>272|283=>303|284=>304|285=>305|286=>306|129=>243|317=>326|318=>327|319=>328|320=>329|337=>335|338=>336|n=>n,fun|9=>9|3=>3|75=>257|76=>258|4=>4|5=>5|167=>297|37=>22|0=>0|85=>298|2=>2|168=>300|53=>107|175=>313|46=>198|210=>316|127=>279|145=>321|143=>319|21=>21|171=>284|173=>286|212=>304|51=>241|20=>20|213=>305|232=>322|233=>323|80=>134|n=>n,fun|15=>4|16=>5|17=>1|18=>6|19=>7|n=>n⟩
theorem Tryz.er:Go.Proofs.LaysC.n172 Tryz.prog Tryz.fm:={
 mixed:=by kernel_rfl
 f129:=Tryz.func243.trans (congrArg some (by kernel_rfl))
 f171:=Tryz.func183.trans (congrArg some (by kernel_rfl))
 f172:=Tryz.func271.trans (congrArg some (by kernel_rfl))
 f205:=Tryz.func334.trans (congrArg some (by kernel_rfl))
 f243:=Tryz.func232.trans (congrArg some (by kernel_rfl))
 f244:=Tryz.func301.trans (congrArg some (by kernel_rfl))
 f245:=Tryz.func302.trans (congrArg some (by kernel_rfl))
 f246:=Tryz.func272.trans (congrArg some (by kernel_rfl))
 f247:=Tryz.func321.trans (congrArg some (by kernel_rfl))
 f279:=Tryz.func322.trans (congrArg some (by kernel_rfl))
 f280:=Tryz.func323.trans (congrArg some (by kernel_rfl))
 f281:=Tryz.func324.trans (congrArg some (by kernel_rfl))
 f282:=Tryz.func325.trans (congrArg some (by kernel_rfl))
 f283:=Tryz.func303.trans (congrArg some (by kernel_rfl))
 f284:=Tryz.func304.trans (congrArg some (by kernel_rfl))
 f285:=Tryz.func305.trans (congrArg some (by kernel_rfl))
 f286:=Tryz.func306.trans (congrArg some (by kernel_rfl))
 f287:=Tryz.func332.trans (congrArg some (by kernel_rfl))
 f316:=Tryz.func333.trans (congrArg some (by kernel_rfl))
 f317:=Tryz.func326.trans (congrArg some (by kernel_rfl))
 f318:=Tryz.func327.trans (congrArg some (by kernel_rfl))
 f319:=Tryz.func328.trans (congrArg some (by kernel_rfl))
 f320:=Tryz.func329.trans (congrArg some (by kernel_rfl))
 f321:=Tryz.func337.trans (congrArg some (by kernel_rfl))
 f322:=Tryz.func338.trans (congrArg some (by kernel_rfl))
 f337:=Tryz.func335.trans (congrArg some (by kernel_rfl))
 f338:=Tryz.func336.trans (congrArg some (by kernel_rfl))
 t0:=Tryz.underlying0
 a0:=Tryz.isAgg0
 z0:=Tryz.sizeOf0
 v0:=Tryz.zeroValue0
 t2:=Tryz.underlying2
 a2:=Tryz.isAgg2
 z2:=Tryz.sizeOf2
 v2:=Tryz.zeroValue2
 t3:=Tryz.underlying3
 a3:=Tryz.isAgg3
 z3:=Tryz.sizeOf3
 v3:=Tryz.zeroValue3
 t4:=Tryz.underlying4
 a4:=Tryz.isAgg4
 z4:=Tryz.sizeOf4
 v4:=Tryz.zeroValue4
 t5:=Tryz.underlying5
 a5:=Tryz.isAgg5
 z5:=Tryz.sizeOf5
 v5:=Tryz.zeroValue5
 t9:=Tryz.underlying9
 a9:=Tryz.isAgg9
 z9:=Tryz.sizeOf9
 v9:=Tryz.zeroValue9
 t20:=Tryz.underlying20
 a20:=Tryz.isAgg20
 z20:=Tryz.sizeOf20
 v20:=Tryz.zeroValue20
 t21:=Tryz.underlying21
 a21:=Tryz.isAgg21
 z21:=Tryz.sizeOf21
 v21:=Tryz.zeroValue21
 t37:=Tryz.underlying22
 a37:=Tryz.isAgg22
 z37:=Tryz.sizeOf22
 v37:=Tryz.zeroValue22
 t46:=Tryz.underlying198
 a46:=Tryz.isAgg198
 z46:=Tryz.sizeOf198
 v46:=Tryz.zeroValue198
 t51:=Tryz.underlying241
 a51:=Tryz.isAgg241
 z51:=Tryz.sizeOf241
 v51:=Tryz.zeroValue241
 t53:=Tryz.underlying107
 a53:=Tryz.isAgg107
 z53:=Tryz.sizeOf107
 v53:=Tryz.zeroValue107
 t75:=Tryz.underlying257
 a75:=Tryz.isAgg257
 z75:=Tryz.sizeOf257
 v75:=Tryz.zeroValue257
 t76:=Tryz.underlying258
 a76:=Tryz.isAgg258
 z76:=Tryz.sizeOf258
 v76:=Tryz.zeroValue258
 t85:=Tryz.underlying298
 a85:=Tryz.isAgg298
 z85:=Tryz.sizeOf298
 v85:=Tryz.zeroValue298
 t127:=Tryz.underlying279
 a127:=Tryz.isAgg279
 z127:=Tryz.sizeOf279
 v127:=Tryz.zeroValue279
 t143:=Tryz.underlying319
 a143:=Tryz.isAgg319
 z143:=Tryz.sizeOf319
 v143:=Tryz.zeroValue319
 t145:=Tryz.underlying321
 a145:=Tryz.isAgg321
 z145:=Tryz.sizeOf321
 v145:=Tryz.zeroValue321
 t167:=Tryz.underlying297
 a167:=Tryz.isAgg297
 z167:=Tryz.sizeOf297
 v167:=Tryz.zeroValue297
 t168:=Tryz.underlying300
 a168:=Tryz.isAgg300
 z168:=Tryz.sizeOf300
 v168:=Tryz.zeroValue300
 t171:=Tryz.underlying284
 a171:=Tryz.isAgg284
 z171:=Tryz.sizeOf284
 v171:=Tryz.zeroValue284
 t173:=Tryz.underlying286
 a173:=Tryz.isAgg286
 z173:=Tryz.sizeOf286
 v173:=Tryz.zeroValue286
 t175:=Tryz.underlying313
 a175:=Tryz.isAgg313
 z175:=Tryz.sizeOf313
 v175:=Tryz.zeroValue313
 t210:=Tryz.underlying316
 a210:=Tryz.isAgg316
 z210:=Tryz.sizeOf316
 v210:=Tryz.zeroValue316
 t212:=Tryz.underlying304
 a212:=Tryz.isAgg304
 z212:=Tryz.sizeOf304
 v212:=Tryz.zeroValue304
 t213:=Tryz.underlying305
 a213:=Tryz.isAgg305
 z213:=Tryz.sizeOf305
 t232:=Tryz.underlying322
 a232:=Tryz.isAgg322
 z232:=Tryz.sizeOf322
 v232:=Tryz.zeroValue322
 t233:=Tryz.underlying323
 a233:=Tryz.isAgg323
 z233:=Tryz.sizeOf323
 v233:=Tryz.zeroValue323
 g15:=by kernel_rfl
 g16:=by kernel_rfl
 g17:=by kernel_rfl
 g18:=by kernel_rfl
 g19:=by kernel_rfl
 t80:=Tryz.underlying134
 a80:=Tryz.isAgg134
 z80:=Tryz.sizeOf134
 v80:=Tryz.zeroValue134
 i0:=by kernel_rfl
 i2:=by kernel_rfl
 i3:=by kernel_rfl
 i4:=by kernel_rfl
 i5:=by kernel_rfl
 i9:=by kernel_rfl
 i20:=by kernel_rfl
 i21:=by kernel_rfl
 i37:=by kernel_rfl
 i46:=by kernel_rfl
 i51:=by kernel_rfl
 i53:=by kernel_rfl
 i75:=by kernel_rfl
 i76:=by kernel_rfl
 i80:=by kernel_rfl
 i85:=by kernel_rfl
 i127:=by kernel_rfl
 i143:=by kernel_rfl
 i145:=by kernel_rfl
 i167:=by kernel_rfl
 i168:=by kernel_rfl
 i171:=by kernel_rfl
 i173:=by kernel_rfl
 i175:=by kernel_rfl
 i210:=by kernel_rfl
 i212:=by kernel_rfl
 i232:=by kernel_rfl
 i233:=by kernel_rfl
 m15:=by kernel_rfl
 m16:=by kernel_rfl
 m17:=by kernel_rfl
 m18:=by kernel_rfl
 m19:=by kernel_rfl
 c0:=by kernel_rfl
 c2:=by kernel_rfl
 c3:=by kernel_rfl
 c4:=by kernel_rfl
 c5:=by kernel_rfl
 c9:=by kernel_rfl
 c20:=by kernel_rfl
 c21:=by kernel_rfl
 c37:=by kernel_rfl
 c46:=by kernel_rfl
 c51:=by kernel_rfl
 c53:=by kernel_rfl
 c75:=by kernel_rfl
 c76:=by kernel_rfl
 c80:=by kernel_rfl
 c85:=by kernel_rfl
 c127:=by kernel_rfl
 c143:=by kernel_rfl
 c145:=by kernel_rfl
 c167:=by kernel_rfl
 c168:=by kernel_rfl
 c171:=by kernel_rfl
 c173:=by kernel_rfl
 c175:=by kernel_rfl
 c210:=by kernel_rfl
 c212:=by kernel_rfl
 c213:=by kernel_rfl
 c232:=by kernel_rfl
 c233:=by kernel_rfl}
open Go.RowKit in
theorem Tryz.strconv_Atoi_ok (s:ByteArray) (Dj:s.size≤9223372036854775806) (v:Int) (h:Lib.atoiAll s.data.toList= .ok v) (w:World):
  Calls Tryz.prog 271 #[.string s] w fun e w'=>e= .returned (.tuple #[.int .i64 v, .nilIface])∧(w'=w∨ ∃t,w'=Lib.bytesWorld w 5 t):=Any.strconv_Atoi_ok Tryz.er s Dj v h w
def Tryz.fy:Go.Shelf.Ren:=⟨fun|217=>288|266=>312|n=>n,fun|9=>9|5=>5|3=>3|n=>n,fun|n=>n⟩
theorem Tryz.j6:Go.Proofs.Lays.n217 Tryz.prog Tryz.fy:={
 mixed:=by kernel_rfl
 f217:=Tryz.func288.trans (congrArg some (by kernel_rfl))
 f266:=Tryz.func312.trans (congrArg some (by kernel_rfl))
 t3:=Tryz.underlying3
 a3:=Tryz.isAgg3
 z3:=Tryz.sizeOf3
 v3:=Tryz.zeroValue3
 t5:=Tryz.underlying5
 a5:=Tryz.isAgg5
 z5:=Tryz.sizeOf5
 v5:=Tryz.zeroValue5
 t9:=Tryz.underlying9
 a9:=Tryz.isAgg9
 z9:=Tryz.sizeOf9
 v9:=Tryz.zeroValue9}
open Go.RowKit Go.Lib in
theorem Tryz.stringslite_IndexByte (s:ByteArray) (c:Int) (w:World):
  Calls Tryz.prog 288 #[.string s, .int .u8 c] w fun e w'=>e= .returned (.int .i64 (Lib.indexByte s.data.toList c.toNat.toUInt8))∧w'=w:=Any.stringslite_IndexByte Tryz.j6 s c w
def Tryz.gk:Go.Shelf.Ren:=⟨fun|194=>94|n=>n,fun|31=>23|9=>9|3=>3|4=>4|0=>0|n=>n,fun|n=>n⟩
theorem Tryz.ik:Go.Proofs.Lays.n194 Tryz.prog Tryz.gk:={
 mixed:=by kernel_rfl
 f194:=Tryz.func94.trans (congrArg some (by kernel_rfl))
 t0:=Tryz.underlying0
 a0:=Tryz.isAgg0
 z0:=Tryz.sizeOf0
 v0:=Tryz.zeroValue0
 t3:=Tryz.underlying3
 a3:=Tryz.isAgg3
 z3:=Tryz.sizeOf3
 v3:=Tryz.zeroValue3
 t4:=Tryz.underlying4
 a4:=Tryz.isAgg4
 z4:=Tryz.sizeOf4
 v4:=Tryz.zeroValue4
 t9:=Tryz.underlying9
 a9:=Tryz.isAgg9
 z9:=Tryz.sizeOf9
 v9:=Tryz.zeroValue9
 t31:=Tryz.underlying23
 a31:=Tryz.isAgg23
 z31:=Tryz.sizeOf23
 v31:=Tryz.zeroValue23}
open Go.RowKit Go.Lib Go.Sort in
theorem Tryz.slices_Compact_string (blk off cap:Nat) (zs:List (List UInt8)) (w:World) (hH:Holds encStr w blk off zs.toArray) (Bz:zs.length≤9223372036854775807) (Hz:zs.length≤cap):
  Calls Tryz.prog 94 #[.slice (some ⟨blk,off,none⟩) zs.length cap] w fun e w'=>e= .returned (.slice (some ⟨blk,off,none⟩) (Lib.compact zs).length cap)∧ ∃q,w'=putRow encStr (Sort.ahead w q) blk off (Lib.compact zs++List.replicate (zs.length-(Lib.compact zs).length) []).toArray:=Any.slices_Compact_string Tryz.ik blk off cap zs w hH Bz Hz
open Go.RowKit Go.Lib Go.Sort in
theorem Tryz.slices_Compact_string_empty (a:Option Addr) (cap:Nat) (w:World):
  Calls Tryz.prog 94 #[.slice a 0 cap] w fun e w'=>e= .returned (.slice a 0 cap)∧w'=w:=Any.slices_Compact_string_empty Tryz.ik a cap w
end Go.Proofs
end
section
namespace Go.Proofs.YtollgpkegmbpmaaGreatDoor
open Go.RowKit
set_option maxRecDepth 100000
theorem bG: ∀(l:List UInt8) (c:UInt8), -1≤Lib.indexByte l c∧Lib.indexByte l c<l.length∨Lib.indexByte l c= -1
 | [],_=> .inr rfl
 |b::l,c=>by
  unfold Lib.indexByte;rcases bG l c with h|h
  ·split
   ·left;simp
   ·split
    ·exact .inr rfl
    ·left;rw [AA];omega
  ·rw [h];split
   ·left;simp
   ·right;rfl
theorem fO {n:Int} (h1: -9223372036854775808≤n) (h2:n≤9223372036854775807):DA .i64 n:=B3 h1 h2
def RU (s:List UInt8) (c:Int):Option Int:=some (Lib.indexByte s c.toNat.toUInt8)
theorem o9 (a0:List UInt8) (a1 r:Int) (h:RU a0 a1=some r):Ca Tryz.prog B8 288 [.str a0, .int .u8 a1] (.int .i64 r):=gW (by kernel_rfl) fun w vs rf hr=>by
 obtain⟨b,us,rfl,rfl,hb,hr⟩:=YC hr;obtain⟨us1,rfl,_,hr⟩:=NQ hr;obtain⟨rfl,rfl⟩:=ND hr;refine(Tryz.stringslite_IndexByte b a1 w).mono ?_;rintro e w' ⟨rfl,rfl⟩;cases h;have hl:b.data.toList.length≤9223372036854775807:=by rw [Array.length_toList];exact hb
 exact⟨Mod.refl [] _,_, [],rfl, .int (by rcases bG b.data.toList a1.toNat.toUInt8 with h|h<;>exact fO (by omega) (by omega)) .nil,by simp⟩
theorem bR {w:World}: ∀{cs:List Value} {xs:List (List UInt8)} {f:List Nat},Rd w cs (Az (xs.map Dw)) f→ ∃bs:List ByteArray,cs=bs.map Value.string∧bs.map (·.data.toList)=xs
 |cs, [],f,h=>by obtain⟨rfl,_⟩:=ND (by simpa [Az]using h);exact⟨[],rfl,rfl⟩
 |cs,x::xs,f,h=>by
  have h':Rd w cs (.str x::Az (xs.map Dw)) f:=by simpa [Az]using h
  obtain⟨b,us,rfl,rfl,_,h2⟩:=YC h';obtain⟨bs,rfl,rfl⟩:=bR h2;exact⟨b::bs,rfl,rfl⟩
def PS (x:Int):Option Int:=some (Lib.bitLen x.toNat:Int)
theorem bL: ∀(f x:Nat),Lib.bitLenAux f x≤f
 |0,_=>by simp [Lib.bitLenAux]
 |f+1,x=>by unfold Lib.bitLenAux;have:=bL f (x/2);split<;>omega
theorem qX (a0 r:Int) (h:PS a0=some r):Ca Tryz.prog B8 185 [.int .u64 a0] (.int .i64 r):=gW (by kernel_rfl) fun w vs rf hr=>by
 obtain⟨us1,rfl,hI,hr⟩:=NQ hr;obtain⟨rfl,rfl⟩:=ND hr;have hb:0≤a0∧a0≤18446744073709551615:=by unfold DA at hI;simp only [IntKind.wrap,IntKind.bits,IntKind.signed]at hI;simp at hI;omega
 refine(Tryz.bits_Len a0 w hb.1 hb.2).mono ?_;rintro e w' ⟨rfl,rfl⟩;cases h;have:=bL 64 a0.toNat
 exact⟨Mod.refl [] _,_, [],rfl, .int (by unfold Lib.bitLen;exact fO (by omega) (by omega)) .nil,by simp⟩
theorem SB {P:Program} (w:World) (dT sT ty elem:TypeId) (k:Nat) (g o dLen dCap:Nat) (a:Addr) (sLen sCap:Nat) (cur:Array Value) (t:TypeId) (cs:List Value)
  (hu:P.underlying dT=some (.slice elem)) (hs:(P.info? elem).map (·.size)=some k)
  (hg:w.heap[g]?=some (.cells cur t (0,0))) (hn:cs.length=Nat.min sLen dLen*k)
  (EI: ∀j v,cs[j]?=some v→w.cell? (a.add j)=some v) (K9:o+cs.length≤cur.size) (h1: ∀v∈cs,v.oneCell'=true):
  (Builtin.copy_ #[dT,sT] ty #[.slice (some ⟨g,o,none⟩) dLen dCap, .slice (some a) sLen sCap]).run P w=
   .ok (goInt (Nat.min sLen dLen)) (w.setRow g (cur.toList.take o++cs++cur.toList.drop (o+cs.length)).toArray):=by
 have hl:=run_loadCells_list (P:=P) w a cs EI;have Ef:=run_storeCells_at P g o t cs 0 cur w hg (by simpa using K9) h1;cases hq:P.info? elem with
 |none=>simp [hq]at hs
 |some i=>
  have hi:i.size=k:=by simpa [hq]using hs
  rw [hn]at hl;simp [Builtin.copy_,run_underlying hu,Builtin.lenOf,Builtin.firstCells,sizeOf,typeInfo,hq,hi,hl,Ef]
theorem WG {P:Program} (w:World) {ops:Array Oper} {rest:List Oper} {o:Oper} {a:Act} {Q:Exit→Act→World→Prop} (MH:o.guard=none) (d s:Operand) (t t':TypeId)
  (ho:o.op= .call {callee:= .builtin .copy,args:= #[d,s],argTypes:= #[t,t']}) (v u:Value) (hd:a.eval d=v) (hs:a.eval s=u) {v':Value} {w':World}
  (hr:(Builtin.copy_ #[t,t'] o.type #[v,u]).run P w= .ok v' w') (h:wpList P ops Q rest (a.put o.dst v') w'):wpList P ops Q (o::rest) a w:=
 wpList_plain MH fun _ hK=>by unfold Oper.wp execOp;simp only [ho,resolve,invoke,builtin,Sem.run_bind,Sem.run_pure,Result.andThen_ok,List.map_toArray,List.map_cons,List.map_nil,hd,hs,hr];exact hK _ _ h
theorem dF {P:Program} {ops:Array Oper} {o:Oper} {a:Act} {w:World} {K:Act→World→Prop} {Q:Exit→Act→World→Prop} {E:Prop}
  (hg:o.guard=none) (d x:Operand) (dT sT:TypeId) (AE:o.op=Op.call {callee:=Callee.builtin Builtin.copy,args:= #[d,x],argTypes:= #[dT,sT]})
  (v u:Value) (hd:a.eval d=v) (hx:a.eval x=u) {v':Value} {w':World} (hr:(Builtin.copy_ #[dT,sT] o.type #[v,u]).run P w= .ok v' w') (hK:K (a.put o.dst v') w'):
  if Region.wanted o (yielded ops a.tmps)=true then Oper.wp P o a w K Q else E:=by
 have hw:Region.wanted o (yielded ops a.tmps)=true:=by simp [Region.wanted,hg]
 rw [if_pos hw];unfold Oper.wp;simp [execOp,AE,resolve,invoke,builtin,hd,hx,hr,Result.andThen];exact hK
def FE (w:World) (el:TypeId) (k:Nat) (g cap:Nat) (C:Array Value) (n:Nat) (cs:List Value):Prop:=
 n≤cap∧cap≤maxLen∧w.heap[g]?=some (.cells C el (0,0))∧C.size=cap*k∧cs=C.toList.take (n*k)
def Mw (w w':World) (el:TypeId) (k:Nat) (own:List Nat) (v:Value) (n:Nat) (cs:List Value):Prop:=
 ∃g cap C,v= .slice (some ⟨g,0,none⟩) n cap∧FE w' el k g cap C n cs∧Mod own w w'∧(g∈own∨w.heap.size≤g)
def YT (P:Program) (f:Nat) (el:TypeId) (k:Nat):Prop:=
 ∀(w:World) (v:Value) (n i:Nat) (cs:List Value) (own:List Nat) (vb vc m:Nat) (VC:Array Value) (vs:List Value),cs.length=n*k→
  ((n=0∧ ∃q,v= .slice q 0 0)∨ ∃g cap C,v= .slice (some ⟨g,0,none⟩) n cap∧FE w el k g cap C n cs∧g∈own)→i≤n→FE w el k vb vc VC m vs→(∀g∈own,vb≠g)→0<m→(n+m)*1000≤140737488355328→
  (∀u∈vs,u.oneCell'=true)→(∀u∈cs,u.oneCell'=true)→
  Calls P f #[v, .int .i64 i, .slice (some ⟨vb,0,none⟩) m vc] w fun e w'=> ∃u,e= .returned u∧Mw w w' el k own u (n+m) (cs.take (i*k)++vs++cs.drop (i*k))
theorem FE.cell {w:World} {el:TypeId} {k g cap:Nat} {C:Array Value} {n:Nat} {cs:List Value} (h:FE w el k g cap C n cs) (off j:Nat) (v:Value) (hj:(cs.drop off)[j]?=some v):w.cell? ((⟨g,off,none⟩:Addr).add j)=some v:=by
 obtain⟨_,_,h3,_,h5⟩:=h;rw [Addr.add_lit,D5 h3];rw [List.getElem?_drop,h5,List.getElem?_take]at hj;split at hj
 ·simpa using hj
 ·cases hj
theorem FE.len {w:World} {el:TypeId} {k g cap:Nat} {C:Array Value} {n:Nat} {cs:List Value} (h:FE w el k g cap C n cs):cs.length=n*k:=by obtain⟨h1,_,_,h4,h5⟩:=h;have:=Nat.mul_le_mul_right k h1;rw [h5,List.length_take,Array.length_toList];omega
theorem zxK {α:Type} (cur cs vs:List α) (i m n:Nat) (hc:cs=cur.take n) (hi:i≤n) (hv:vs.length=m) (hn:n+m≤cur.length):
  let c1:=cur.take (i+m)++cs.drop i++cur.drop (i+m+(cs.drop i).length)
  (c1.take i++vs++c1.drop (i+vs.length)).take (n+m)=cs.take i++vs++cs.drop i:=by
 have Ay:cs.length=n:=by rw [hc,List.length_take];omega
 have hd:(cs.drop i).length=n-i:=by rw [List.length_drop,Ay]
 intro c1;have e1:c1.take i=cs.take i:=by show(cur.take (i+m)++cs.drop i++_).take i=_;rw [List.append_assoc,List.take_append_of_le_length (by rw [List.length_take];omega),List.take_take,hc,List.take_take];congr 1;omega
 have e2:c1.drop (i+vs.length)=cs.drop i++cur.drop (i+m+(cs.drop i).length):=by show(cur.take (i+m)++cs.drop i++_).drop _=_;rw [List.append_assoc,List.drop_append_of_le_length (by rw [List.length_take,hv];omega),List.drop_eq_nil_of_le (by rw [List.length_take,hv];omega),List.nil_append]
 rw [e1,e2];have l1:(cs.take i++vs++cs.drop i).length=n+m:=by simp only [AB,List.length_take,hv,hd,Ay];omega
 rw [←List.append_assoc,←l1,List.take_left]
theorem two {α:Type} (zs cs vs:List α) (i m n:Nat) (cur:List α) (FI:cur=cs.take i++zs) (Ay:cs.length=n) (hi:i≤n) (hv:vs.length=m) (hz:n+m-i≤zs.length):
  let c1:=cur.take i++vs++cur.drop (i+vs.length)
  (c1.take (i+m)++cs.drop i++c1.drop (i+m+(cs.drop i).length)).take (n+m)=cs.take i++vs++cs.drop i:=by
 have ht:(cs.take i).length=i:=by rw [List.length_take];omega
 intro c1;have e1:c1=cs.take i++vs++cur.drop (i+vs.length):=by show cur.take i++vs++cur.drop (i+vs.length)=_;rw [FI];congr 2;rw [List.take_append_of_le_length (by omega),List.take_take,Nat.min_self]
 have e2:c1.take (i+m)=cs.take i++vs:=by
  have l2:(cs.take i++vs).length=i+m:=by rw [AB,ht,hv]
  rw [e1,←l2,List.take_left]
 rw [e2];have l1:(cs.take i++vs++cs.drop i).length=n+m:=by simp only [AB,ht,hv,List.length_drop,Ay];omega
 rw [←l1,List.take_left]
theorem XH (xs ys:List AV):Az (xs++ys)=Az xs++Az ys:=by simp [Az]
theorem vK {K:Nat} {xs:List AV} (h: ∀y∈xs,y.cells.length=K) {i:Nat} (hi:i≤xs.length):Az (xs.take i)=(Az xs).take (i*K)∧Az (xs.drop i)=(Az xs).drop (i*K):=by
 have l1:(Az (xs.take i)).length=i*K:=by rw [Kx _ fun y hy=>h y (List.mem_of_mem_take hy),List.length_take,Nat.min_eq_left hi]
 have e:Az xs=Az (xs.take i)++Az (xs.drop i):=by rw [←XH,List.take_append_drop]
 rw [e,←l1,List.take_left,List.drop_left];exact⟨rfl,rfl⟩
theorem Ce.lp {w:World} {el K:Nat} {v:Value} {x:AV} {top:List Nat} (h:Ce w el K v x top []): ∃xs cs,x= .sl xs∧0<K∧(∀y∈xs,y.cells.length=K)∧cs.length=xs.length*K∧Rd w cs (Az xs) []∧(∀u∈cs,u.oneCell'=true)∧
  ((xs= []∧top= []∧ ∃q,v= .slice q 0 0)∨ ∃g cap C,v= .slice (some ⟨g,0,none⟩) xs.length cap∧FE w el K g cap C xs.length cs∧top= [g]):=by
 obtain⟨xs,rfl,h2,h3,⟨rfl,⟨a,hv⟩,rfl,_⟩|⟨g,cap,C,rfl,h6,h7,h8,h9,rfl,ES,EX⟩⟩:=h
 ·exact⟨[], [],rfl,h3,h2,by simp,by simpa [Az]using Rd.nil,by simp, .inl ⟨rfl,rfl,a,hv⟩⟩
 ·exact⟨xs,_,rfl,h3,h2,(FE.len ⟨h6,h7,h8,h9,rfl⟩),EX,ES, .inr ⟨g,cap,C,rfl,⟨h6,h7,h8,h9,rfl⟩,rfl⟩⟩
theorem XK {P:Program} {w:World} {t el:TypeId} {v:Value} {x:AV} {rf hs:List Nat} (ha:Aj P t=false) (hl:AR P t= [t]) (he:B9 P t=some el) (hf:BE P el=true) (h:Mo P w t [true] v x rf hs):rf= []∧Ce w el (P.cellsOf el) v x hs []:=by
 obtain⟨us,ys,h1,h2⟩:=h;rw [ha]at h1;simp only [A9,if_false]at h1;obtain⟨rfl,rfl⟩:=h1;rw [hl]at h2;cases h2 with
 |own q1 q2 q3 q4 q5=>
  cases q5;rw [he]at q2;cases q2;rcases q3 with⟨_,rfl⟩|⟨h,_⟩
  ·exact⟨rfl,by simpa using q4⟩
  ·rw [hf]at h;cases h
 |deep q1 q2 q3=>rw [he]at q2;cases q2;rw [hf]at q3;cases q3
 |rd q1=>have:=q1 rfl;rw [he]at this;cases this
def Y1 (P:Program) (sg:Bq) (f:Nat) (t it el K:Nat):Bool:=
 match P.funcs[f]?,sg f with
 |some fn,some s=>(match s.bg,s.res,s.ft,s.lo with
  | [.va [true], .ro, .va [true]], [true], [], []=>true
  |_,_,_,_=>false)&&fn.body.isSome&& !(fn.name== "runtime.NumGoroutine")&&fn.params.toList== [t,it,t]&&fn.resultTypes.toList== [t]&&fn.nfree==0&& !Aj P t&&AR P t== [t]&&B9 P t==some el&&BE P el&&P.cellsOf el==K&&Fm P t [true]&&fn.params.size==3
 |_,_=>false
def QU (P:Program) (sg:Bq) (f:Nat) (r:List AV):Bool:=match P.funcs[f]?,sg f with
 |some fn,some s=>KC P fn s (.sl r)
 |_,_=>false
theorem zwj {f t it el K:Nat} (hk:Y1 Tryz.prog B8 f t it el K=true) (D4: ∀r,QU Tryz.prog B8 f r=true) (Lf:YT Tryz.prog f el K) (xs ys:List AV) (i:Int) (h0:0≤i) (h1:i≤xs.length) (hy:ys≠ []) (hb:(xs.length+ys.length)*1000≤140737488355328):
  Ca Tryz.prog B8 f [.sl xs, .int .i64 i, .sl ys] (.sl (xs.take i.toNat++ys++xs.drop i.toNat)):=by
 unfold Y1 at hk;split at hk
 ·rename_i fn s hf hs;simp only [Ac,Bool.not_eq_true',beq_iff_eq]at hk;obtain⟨⟨⟨⟨⟨⟨⟨⟨⟨⟨⟨⟨g1,g2⟩,g3⟩,g4⟩,g5⟩,g6⟩,g7⟩,g8⟩,g9⟩,g10⟩,g11⟩,g12⟩,g13⟩:=hk;obtain⟨hm,hr,CK,BD⟩:s.bg= [.va [true], .ro, .va [true]]∧s.res= [true]∧s.ft= []∧s.lo= []:=by
   split at g1
   ·rename_i a b c d;exact⟨a,b,c,d⟩
   ·cases g1
  unfold Ca;rw [if_pos (Mh f s hs)];refine⟨s,hs,fn,hf,g2,g3,by have:=D4 (xs.take i.toNat++ys++xs.drop i.toNat);unfold QU at this;rw [hf,hs]at this;exact this,by simp [g6,g13],by simp [CK],fun w vs rf lf AX Ao hd _ By C6=> ?_⟩;rw [g4,CK,List.append_nil,hm,BD]at Ao;cases Ao with
  |lent h _ _ _=>cases h
  | @cons _ _ _ _ v1 vs1 _ _ f1 k1 rf1 lf1 Bj a1 Ao=>
   cases Ao with
   |lent h _ _ _=>cases h
   | @cons _ _ _ _ v2 vs2 _ _ f2 k2 rf2 lf2 AQ a2 Ao=>
    cases Ao with
    |lent h _ _ _=>cases h
    | @cons _ _ _ _ v3 vs3 _ _ f3 k3 rf3 lf3 Ff a3 Ao=>
     cases Ao;obtain⟨rfl,r1⟩:=XK g7 g8 g9 g10 a1;obtain⟨rfl,r3⟩:=XK g7 g8 g9 g10 a3;obtain⟨a2,rfl⟩:Rd w [v2] [AV.int .i64 i] f2∧k2= []:=a2;obtain⟨us,rfl2,hI,a2⟩:=NQ a2;obtain⟨rfl,rfl⟩:=ND a2;cases rfl2;obtain⟨xs',cs,e1,p0,p1,p2,p3,p4,p5⟩:=r1.lp;cases e1;obtain⟨ys',cv,e2,_,q1,q2,q3,q4,q5⟩:=r3.lp;cases e2;rw [g11]at p0 p1 p2 p5 q1 q2 q5;obtain⟨vb,vc,VC,rfl,hv,rfl⟩: ∃g cap C,v3= .slice (some ⟨g,0,none⟩) ys.length cap∧FE w el K g cap C ys.length cv∧k3= [g]:=by
      rcases q5 with⟨h,_⟩|h
      ·exact absurd h hy
      ·exact h
     have mW:k1++ [vb]=k1++([]++([vb]++ [])):=by simp
     have Rf: ∀g∈k1,vb≠g:=by intro g hg e;subst e;have:=(List.nodup_append.1 By).2.2 vb hg vb (by simp);exact this rfl
     have nR:0<ys.length:=by cases ys with|nil=>exact absurd rfl hy|cons=>simp
     have hc:=Lf w v1 xs.length i.toNat cs k1 vb vc ys.length VC cv p2 (by
      rcases p5 with⟨rfl,_,q,rfl⟩|⟨g,cap,C,rfl,h,rfl⟩
      ·exact .inl ⟨rfl,q,rfl⟩
      ·exact .inr ⟨g,cap,C,rfl,h,by simp⟩) (by omega) hv Rf nR hb q4 p4
     rw [show((i.toNat:Nat):Int)=i by omega]at hc;refine hc.mono ?_;rintro e w' ⟨u,rfl,g,cap,C,rfl,⟨z1,z2,z3,z4,z5⟩,Ci,Ec⟩;have Hd: ∀{us:List Value} {zs:List AV},Rd w us zs []→Rd w' us zs []:=fun h=>h.frame (by simp);have cut: ∀o n,Rd w ((cs.drop o).take n) (((Az xs).drop o).take n) []:=fun o n=>by
      obtain⟨gg,k1,k2⟩:=p3.piece o n;have:gg= []:=List.eq_nil_iff_forall_not_mem.2 fun b hb=>by simpa using k1 b hb
      rw [this]at k2;exact k2
     obtain⟨t1,t2⟩:=vK p1 (i:=i.toNat) (by omega);have hmul:=Nat.mul_le_mul_right K (show i.toNat≤xs.length by omega);have CF:Rd w' (cs.take (i.toNat*K)++cv++cs.drop (i.toNat*K)) (Az (xs.take i.toNat++ys++xs.drop i.toNat)) []:=by rw [XH,XH,t1,t2];have c1:=cut 0 (i.toNat*K);have c2:=cut (i.toNat*K) (cs.length-i.toNat*K);rw [List.drop_zero,List.drop_zero]at c1;rw [List.take_of_length_le (by simp),List.take_of_length_le (by rw [List.length_drop,Kx _ p1,p2];exact Nat.le_refl _)]at c2;exact(((Hd c1).app (Hd q3)).app (Hd c2))
     have hlen:(xs.take i.toNat++ys++xs.drop i.toNat).length=xs.length+ys.length:=by simp only [AB,List.length_take,List.length_drop];omega
     have A6:Ce w' el K (.slice (some ⟨g,0,none⟩) (xs.length+ys.length) cap) (.sl (xs.take i.toNat++ys++xs.drop i.toNat)) [g] []:=by
      refine⟨_,rfl,fun y hy=> ?_,p0, .inr ⟨g,cap,C,by rw [hlen],by rw [hlen];exact z1,z2,z3,z4,rfl, ?_, ?_⟩⟩
      ·rcases Af.1 hy with hy|hy
       ·rcases Af.1 hy with hy|hy
        ·exact p1 y (List.mem_of_mem_take hy)
        ·exact q1 y hy
       ·exact p1 y (List.mem_of_mem_drop hy)
      ·rw [hlen,←z5];intro u hu;rcases Af.1 hu with hu|hu
       ·rcases Af.1 hu with hu|hu
        ·exact p4 u (List.mem_of_mem_take hu)
        ·exact q4 u hu
       ·exact p4 u (List.mem_of_mem_drop hu)
      ·rw [hlen,←z5];exact CF
     refine⟨_,rfl,⟨⟨_, [], [], [g], [], [],rfl, ?_, ?_,by simp, ?_,by simp⟩,Ci.weaken fun b hb=> .inl (by simp [hb])⟩⟩
     ·rw [g5];show Dr Tryz.prog w' t s.res _ _ [] [g];unfold Dr;rw [hr,if_pos g12];refine⟨[.slice (some ⟨g,0,none⟩) (xs.length+ys.length) cap], [.sl (xs.take i.toNat++ys++xs.drop i.toNat)],by rw [g7];simp, ?_⟩;rw [g8];have:=BR.own (P:=Tryz.prog) (t:=t) (ts:= []) (fl:= [true]) (us:= []) (ys:= []) (rf:= []) (hs:= []) rfl g9 (.inl ⟨g10,rfl⟩) (by rw [g11];exact A6) .nil;simpa using this
     ·rw [g4,CK,List.append_nil,hm];exact .va rfl (.ro rfl (.va rfl .nil))
     ·intro b hb;simp only [List.append_nil,List.mem_singleton]at hb;subst hb;exact⟨by rcases Ec with h|h;exact .inl (by simp [h]);exact .inr h,Ev z3⟩
 ·cases hk
noncomputable def TD {α:Type} (xs:List α) (i:Int) (ys:List α):Option (List α):=req (0≤i∧i≤xs.length∧0<ys.length∧(xs.length+ys.length)*1000≤140737488355328) (some (xs.take i.toNat++ys++xs.drop i.toNat))
theorem zwi {f t it el K:Nat} (hk:Y1 Tryz.prog B8 f t it el K=true) (D4: ∀r,QU Tryz.prog B8 f r=true) (Lf:YT Tryz.prog f el K) {α:Type} {av:α→AV} {xs ys r:List α} {i:Int} (h:TD xs i ys=some r):
  Ca Tryz.prog B8 f [.sl (xs.map av), .int .i64 i, .sl (ys.map av)] (.sl (r.map av)):=by
 obtain⟨⟨h0,h1,h2,h3⟩,h⟩:=Ii h;cases h;have:=zwj hk D4 Lf (xs.map av) (ys.map av) i h0 (by simpa using h1) (by cases ys with|nil=>simp at h2|cons=>simp) (by simpa using h3);simpa [List.map_append,List.map_take,List.map_drop]using this
theorem XB: ∃i z,Tryz.prog.info? 74=some i∧i.size=3∧i.zero=some z∧z.cells.size=3∧i.bytes≤1000:=by
 have h:(match Tryz.prog.info? 74 with|some i=>(match i.zero with|some z=>i.size==3&&z.cells.size==3&&decide (i.bytes≤1000)|none=>false)|none=>false)=true:=by kernel_rfl
 split at h
 ·rename_i i hi;split at h
  ·rename_i z hz;simp only [Ac,beq_iff_eq,decide_eq_true_eq]at h;exact⟨i,z,hi,h.1.1,hz,h.1.2,h.2⟩
  ·cases h
 ·cases h
set_option maxHeartbeats 4000000 in
theorem sJ (w:World) (v:Value) (n:Nat) (cs:List Value) (own:List Nat) (Ay:cs.length=n*3) (Bi:(n=0∧ ∃q,v= .slice q 0 0)∨ ∃g cap C,v= .slice (some ⟨g,0,none⟩) n cap∧FE w 74 3 g cap C n cs∧g∈own)
  (vb vc m:Nat) (VC:Array Value) (vs:List Value) (hv:FE w 74 3 vb vc VC m vs) (hm:0<m) (hb:(n+m)*1000≤140737488355328) (IQ: ∀u∈vs,u.oneCell'=true):
  Calls Tryz.prog 228 #[v, .int .i64 n, .slice (some ⟨vb,0,none⟩) m vc] w fun e w'=> ∃u,e= .returned u∧Mw w w' 74 3 own u (n+m) (cs++vs):=by
 obtain⟨i0,z0,hi,hs,hz,CV,Ft⟩:=XB;have RG: ¬((m:Int)=0):=by omega
 have EI:Src w i0.size (some ⟨vb,0,none⟩) m vs:= .inr ⟨_,rfl,by rw [hs];exact hv.len,fun j u hj=>hv.cell 0 j u (by simpa using hj),IQ⟩;obtain⟨v',w1,hr,AK⟩:=Yo (P:=Tryz.prog) w 47 47 74 i0 z0 Tryz.underlying47 hi hz (by rw [CV,hs]) (by omega) (fun b=>b∈own) v n cs (by rw [hs];exact Ay)
  (by
   rcases Bi with h|⟨g,cap,C,rfl,⟨h1,h2,h3,h4,h5⟩,h6⟩
   ·exact .inl h
   ·exact .inr ⟨g,cap,C,rfl,h1,h2,h3,by rw [hs];exact h4,by rw [hs];exact h5,h6⟩)
  (some ⟨vb,0,none⟩) m vc vs EI (by simp only [maxLen];omega) (by have:=Nat.mul_le_mul_left (n+m) Ft;omega)
 have fin:Mw w w1 74 3 own v' (n+m) (cs++vs):=by
  rcases AK with⟨_,_,h⟩|⟨g,cap,C,rfl,h1,h2,h3,h4,h5,h6,h7⟩
  ·omega
  ·refine⟨g,cap,C,rfl,⟨h1,h2,h3,by rw [hs]at h4;exact h4,by rw [hs]at h5;exact h5.symm⟩, ?_,h7.symm.imp id fun h=>by omega⟩;refine⟨h6.os,h6.tape,h6.output,h6.size,fun b hb hn=>h6.block b hb fun e=> ?_⟩;cases e;rcases h7 with h7|h7
   ·omega
   ·exact hn h7
 clear AK;rcases Bi with⟨rfl,q,rfl⟩|⟨g,cap,C,rfl,_,_⟩
 ·cases q with
  |none=>
   go_enter Tryz.func228,Tryz.ntmps228
   go_wp2_with (at_builtin;refine Lib.wpList_append_run _ rfl _ _ _ _ rfl _ _ rfl rfl _ _ hr ?_)
   all_goals (go_ret;exact⟨_,rfl,fin⟩)
  |some q=>
   obtain⟨qb,qo,qs⟩:=q
   go_enter Tryz.func228,Tryz.ntmps228
   go_wp2_with (at_builtin;refine Lib.wpList_append_run _ rfl _ _ _ _ rfl _ _ rfl rfl _ _ hr ?_)
   all_goals (go_ret;exact⟨_,rfl,fin⟩)
 ·go_enter Tryz.func228,Tryz.ntmps228
  go_wp2_with (at_builtin;refine Lib.wpList_append_run _ rfl _ _ _ _ rfl _ _ rfl rfl _ _ hr ?_)
  all_goals (go_ret;exact⟨_,rfl,fin⟩)
set_option maxHeartbeats 4000000 in
theorem rG (w:World) (n i g cap:Nat) (C:Array Value) (cs:List Value) (own:List Nat) (vb vc m:Nat) (Bi:FE w 74 3 g cap C n cs) (B0:i<n) (BY:cap<n+m)
  (VC:Array Value) (vs:List Value) (hv:FE w 74 3 vb vc VC m vs) (hm:0<m) (hb:(n+m)*1000≤140737488355328) (IQ: ∀u∈vs,u.oneCell'=true) (Hc: ∀u∈cs,u.oneCell'=true):
  Calls Tryz.prog 228 #[.slice (some ⟨g,0,none⟩) n cap, .int .i64 i, .slice (some ⟨vb,0,none⟩) m vc] w fun e w'=> ∃u,e= .returned u∧Mw w w' 74 3 own u (n+m) (cs.take (i*3)++vs++cs.drop (i*3)):=by
 obtain⟨i0,z0,hi,hs,hz,CV,Ft⟩:=XB;have Ay:=Bi.len;have Dl:=hv.len;have UK:=Bi;obtain⟨O9,IY,hg,Oq,Bb⟩:=UK;have OX:g<w.heap.size:=Ev hg;have hvw:vb<w.heap.size:=Ev hv.2.2.1;have Bz:(Tryz.prog.info? 74).map (·.size)=some 3:=by rw [hi];simp [hs]
 have U7:i+(n+m-i)=n+m:=by omega
 have ME:(n+m)*i0.bytes≤140737488355328:=Nat.le_trans (Nat.mul_le_mul_left _ Ft) hb;have Zj:(n+m-i)*i0.bytes≤140737488355328:=Nat.le_trans (Nat.mul_le_mul_right _ (by omega)) ME;have hold:(Builtin.firstCells i0.size i (.slice (some ⟨g,0,none⟩) i cap)).run Tryz.prog w.drew= .ok (cs.take (i*3)).toArray w.drew:=by
  rw [hs];exact run_firstCells_some w.drew 3 i ⟨g,0,none⟩ i cap (cs.take (i*3)) (by rw [List.length_take];omega) (fun j v hj=>by
   rw [List.getElem?_take]at hj;split at hj
   ·exact Bi.cell 0 j v (by simpa using hj)
   ·cases hj)
 have VK: ∀ty,(Builtin.append_ #[47,3] ty #[.slice (some ⟨g,0,none⟩) i cap, .int .i64 ((n:Int)+(m:Int)-(i:Int))]).run Tryz.prog w=
   .ok (.slice (some ⟨w.heap.size,0,none⟩) (n+m) (grownCap w (n+m) cap 74)) (w.drew.alloc (.cells ((cs.take (i*3)).toArray++Builtin.zeroCells z0.cells (n+m-i)++Builtin.zeroCells z0.cells (grownCap w (n+m) cap 74-(n+m))) 74)):=fun ty=>by
  have h:=Lib.run_append_grow_zeros w 47 3 ty 74 i0 z0 .i64 .i64 Tryz.underlying47 Tryz.underlying3 hi hz (some ⟨g,0,none⟩) i cap (cs.take (i*3)) hold (n+m-i) (by omega) (by omega) (by omega) (by omega) (by omega) (by rw [U7];exact growslice_fits BY ME);rw [U7]at h;rw [show(n:Int)+(m:Int)-(i:Int)=((n+m-i:Nat):Int) by omega];exact h
 obtain⟨G,hG⟩: ∃G,G=grownCap w (n+m) cap 74:=⟨_,rfl⟩
 obtain⟨ROW,IU⟩: ∃ROW:Array Value,ROW=(cs.take (i*3)).toArray++Builtin.zeroCells z0.cells (n+m-i)++Builtin.zeroCells z0.cells (G-(n+m)):=⟨_,rfl⟩
 have lF:n+m≤G:=by rw [hG];exact grownCap_ge w _ _ _
 have Ou:G≤maxLen:=by rw [hG];exact grownCap_le_maxLen w (n+m) cap 74 (by unfold maxLen;omega)
 have lC:G≤9223372036854775807:=Ou;rw [←hG]at VK;rw [←IU]at VK;have lK:ROW.size=G*3:=by rw [IU];simp only [Array.size_append,List.size_toArray,List.length_take,size_zeroCells,CV];omega
 obtain⟨ROW2,MD⟩: ∃R:Array Value,R=(ROW.toList.take (i*3)++vs++ROW.toList.drop (i*3+vs.length)).toArray:=⟨_,rfl⟩
 obtain⟨ROW3,Rc⟩: ∃R:Array Value,R=(ROW2.toList.take ((i+m)*3)++cs.drop (i*3)++ROW2.toList.drop ((i+m)*3+(cs.drop (i*3)).length)).toArray:=⟨_,rfl⟩
 have Uy:ROW2.size=G*3:=by rw [MD];simp only [List.size_toArray,AB,List.length_take,List.length_drop,Array.length_toList];omega
 have Uz:ROW3.size=G*3:=by rw [Rc];simp only [List.size_toArray,AB,List.length_take,List.length_drop,Array.length_toList];omega
 obtain⟨N,hN⟩: ∃N,N=w.heap.size:=⟨_,rfl⟩
 have hA:(w.alloc (.cells ROW 74)).heap[N]?=some (.cells ROW 74 (0,0)):=by rw [hN];exact heap_alloc_new w _
 have hO: ∀k,k<N→(w.alloc (.cells ROW 74)).heap[k]?=w.heap[k]?:=fun k hk=>Below.heap_alloc w _ k (by omega);have UO: ∀(W:World),W.heap=(w.alloc (.cells ROW 74)).heap→ ∀ty dc,(Builtin.copy_ #[47,47] ty #[.slice (some ⟨N,i*3,none⟩) (n+m-i) dc, .slice (some ⟨vb,0,none⟩) m vc]).run Tryz.prog W= .ok (goInt m) (W.setRow N ROW2):=fun W hW ty dc=>by
  have h:=SB (P:=Tryz.prog) W 47 47 ty 74 3 N (i*3) (n+m-i) dc ⟨vb,0,none⟩ m vc ROW 74 vs Tryz.underlying47 Bz (by rw [hW];exact hA) (by rw [Dl,show Nat.min m (n+m-i)=m from Nat.min_eq_left (by omega)])
   (fun j v hj=>by rw [World.cell?_of_block (w:=w) (by rw [Addr.add_lit,hW];exact hO vb (by omega))];exact hv.cell 0 j v (by simpa using hj)) (by rw [lK,Dl];omega) IQ
  rw [show Nat.min m (n+m-i)=m from Nat.min_eq_left (by omega),←MD]at h;exact h
 have hB:((w.alloc (.cells ROW 74)).setRow N ROW2).heap[N]?=some (.cells ROW2 74 (0,0)):=setRow_heap _ _ _ _ _ _ hA;have Uv: ∀k,k<N→((w.alloc (.cells ROW 74)).setRow N ROW2).heap[k]?=w.heap[k]?:=fun k hk=>by rw [setRow_other _ _ _ _ (by omega)];exact hO k hk
 have OI: ∀(W:World),W.heap=((w.alloc (.cells ROW 74)).setRow N ROW2).heap→ ∀ty dc sc,(Builtin.copy_ #[47,47] ty #[.slice (some ⟨N,(i+m)*3,none⟩) (n+m-(i+m)) dc, .slice (some ⟨g,i*3,none⟩) (n-i) sc]).run Tryz.prog W= .ok (goInt ((n-i:Nat):Int)) (W.setRow N ROW3):=fun W hW ty dc sc=>by
  have h:=SB (P:=Tryz.prog) W 47 47 ty 74 3 N ((i+m)*3) (n+m-(i+m)) dc ⟨g,i*3,none⟩ (n-i) sc ROW2 74 (cs.drop (i*3)) Tryz.underlying47 Bz (by rw [hW];exact hB) (by rw [List.length_drop,Ay,show Nat.min (n-i) (n+m-(i+m))=n-i from Nat.min_eq_left (by omega)];omega)
   (fun j v hj=>by rw [World.cell?_of_block (w:=w) (by rw [Addr.add_lit,hW];exact Uv g (by omega))];exact Bi.cell (i*3) j v hj) (by rw [Uy,List.length_drop,Ay];omega) (fun v hv=>Hc v (List.mem_of_mem_drop hv))
  rw [show Nat.min (n-i) (n+m-(i+m))=n-i from Nat.min_eq_left (by omega),←Rc]at h;exact h
 have fin: ∀W:World,W.os=w.os→W.tape=w.tape→W.output=w.output→W.heap=(((w.alloc (.cells ROW 74)).setRow N ROW2).setRow N ROW3).heap→Mw w W 74 3 own (.slice (some ⟨N,0,none⟩) (n+m) G) (n+m) (cs.take (i*3)++vs++cs.drop (i*3)):=fun W w1 w2 w3 hW=>by refine⟨N,G,ROW3,rfl,⟨lF,Ou,by rw [hW];exact setRow_heap _ _ _ _ _ _ hB,Uz, ?_⟩,⟨w1,w2,w3,by rw [hW];simp,fun k hk _=>by rw [hW,setRow_other _ _ _ _ (by omega)];exact Uv k (by omega)⟩, .inr (by omega)⟩;have h:=two ((Builtin.zeroCells z0.cells (n+m-i)).toList++(Builtin.zeroCells z0.cells (G-(n+m))).toList) cs vs (i*3) (m*3) (n*3) ROW.toList (by rw [IU];simp) Ay (Nat.mul_le_mul_right _ (by omega)) Dl (by simp only [AB,Array.length_toList,size_zeroCells,CV];omega);rw [Rc,MD,Nat.add_mul n m,Nat.add_mul i m];exact h.symm
 have RG: ¬((m:Int)=0):=by omega
 have Pz: ¬((i:Int)=(n:Int)):=by omega
 have nT:(cap:Int)<(n:Int)+(m:Int):=by omega
 have hGi: ¬(G=i):=by omega
 have lE: ¬(G=i+m):=by omega
 have OF: ¬(cap=i):=by omega
 have MM:IntKind.i64.wrap ((i:Int)+(m:Int))=(i:Int)+(m:Int):=by rw [IntKind.wrap_i64];omega
 have Hy:(0:Int)≤(i:Int)+(m:Int):=by omega
 have U9:i≤n:=by omega
 have nK:((i:Int)+(m:Int)).toNat=i+m:=by omega
 have UF:(i:Int)≤(n:Int):=by omega
 have Y7:((w.alloc (.cells ROW 74)).drew).heap=(w.alloc (.cells ROW 74)).heap:=rfl;have Up:(((w.alloc (.cells ROW 74)).drew.setRow N ROW2).drew).heap=((w.alloc (.cells ROW 74)).setRow N ROW2).heap:=rfl;subst hN;clear hold U7 IU hG MD Rc hA hO hB Uv Bb
 go_enter Tryz.func228,Tryz.ntmps228
 go_wp2_with (first
  |(at_builtin;refine Lib.wpList_append_run _ rfl _ _ _ _ rfl _ _ rfl rfl _ _ (VK _) ?_)
  |(at_builtin;refine WG _ rfl _ _ 47 47 rfl _ _ rfl rfl (UO _ Y7 _ _) ?_)
  |(at_builtin;refine WG _ rfl _ _ 47 47 rfl _ _ rfl rfl (OI _ rfl _ _ _) ?_))
 go_region_law (refine dF rfl _ _ 47 47 rfl (.slice (some ⟨w.heap.size,(i+m)*3,none⟩) (n+m-(i+m)) (G-(i+m))) (.slice (some ⟨g,i*3,none⟩) (n-i) (cap-i)) (by simp [Act.eval,Act.put]) (by simp [Act.eval,Act.put]) (OI _ Up 3 (G-(i+m)) (cap-i)) ?_)
 go_wp2
 go_ret
 exact⟨_,rfl,fin _ rfl rfl rfl rfl⟩
set_option maxHeartbeats 4000000 in
theorem qJ (w:World) (n i g cap:Nat) (C:Array Value) (cs:List Value) (own:List Nat) (vb vc m:Nat) (Bi:FE w 74 3 g cap C n cs) (Ec:g∈own) (B0:i<n) (BY:n+m≤cap) (Px:vb≠g)
  (VC:Array Value) (vs:List Value) (hv:FE w 74 3 vb vc VC m vs) (hm:0<m) (hb:(n+m)*1000≤140737488355328) (IQ: ∀u∈vs,u.oneCell'=true) (Hc: ∀u∈cs,u.oneCell'=true):
  Calls Tryz.prog 228 #[.slice (some ⟨g,0,none⟩) n cap, .int .i64 i, .slice (some ⟨vb,0,none⟩) m vc] w fun e w'=> ∃u,e= .returned u∧Mw w w' 74 3 own u (n+m) (cs.take (i*3)++vs++cs.drop (i*3)):=by
 obtain⟨i0,z0,hi,hs,hz,CV,Ft⟩:=XB;have Ay:=Bi.len;have Dl:=hv.len;have UK:=Bi;obtain⟨O9,IY,hg,Oq,Bb⟩:=UK;have OX:g<w.heap.size:=Ev hg;have Bz:(Tryz.prog.info? 74).map (·.size)=some 3:=by rw [hi];simp [hs]
 have lV:cap≤9223372036854775807:=IY;have RB:=hv.2.2.1;have Vz: ∀lb cb,(callFunc 269 #[.slice (some ⟨vb,0,none⟩) m vc, .slice (some ⟨g,(i+m)*3,none⟩) lb cb]).run Tryz.prog w= .ok (.value (.bool false)) w:=fun lb cb=>by
  rw [run_callFunc_extern Tryz.func269 (by kernel_rfl) (by kernel_rfl) (by kernel_rfl) (e:=Extern.SlicesOverlaps.overlaps #[47,47] #[4]) (by kernel_rfl),
   Lib.run_overlaps_apart w 47 4 74 Tryz.underlying47 3 (fun w=>by simp [Go.sizeOf,typeInfo,hi,hs]) ⟨vb,0,none⟩ ⟨g,(i+m)*3,none⟩ m vc lb cb Px 74 74 VC.size C.size (by simp [World.shape?,RB]) (by simp [World.shape?,hg]) (by omega) (by simp [World.frozen?,RB]) (by simp [World.frozen?,RB])]
  rfl
 obtain⟨C1,IS⟩: ∃R:Array Value,R=(C.toList.take ((i+m)*3)++cs.drop (i*3)++C.toList.drop ((i+m)*3+(cs.drop (i*3)).length)).toArray:=⟨_,rfl⟩
 obtain⟨C2,Q8⟩: ∃R:Array Value,R=(C1.toList.take (i*3)++vs++C1.toList.drop (i*3+vs.length)).toArray:=⟨_,rfl⟩
 have Un:C1.size=cap*3:=by rw [IS];simp only [List.size_toArray,AB,List.length_take,List.length_drop,Array.length_toList];omega
 have Uo:C2.size=cap*3:=by rw [Q8];simp only [List.size_toArray,AB,List.length_take,List.length_drop,Array.length_toList];omega
 have UM: ∀(W:World),W.heap=w.heap→ ∀ty dc sc,(Builtin.copy_ #[47,47] ty #[.slice (some ⟨g,(i+m)*3,none⟩) (n+m-(i+m)) dc, .slice (some ⟨g,i*3,none⟩) (n+m-i) sc]).run Tryz.prog W= .ok (goInt ((n-i:Nat):Int)) (W.setRow g C1):=fun W hW ty dc sc=>by
  have h:=SB (P:=Tryz.prog) W 47 47 ty 74 3 g ((i+m)*3) (n+m-(i+m)) dc ⟨g,i*3,none⟩ (n+m-i) sc C 74 (cs.drop (i*3)) Tryz.underlying47 Bz (by rw [hW];exact hg) (by rw [List.length_drop,Ay,show Nat.min (n+m-i) (n+m-(i+m))=n-i from by rw [show Nat.min (n+m-i) (n+m-(i+m))=n+m-(i+m)from Nat.min_eq_right (by omega)];omega];omega)
   (fun j v hj=>by rw [World.cell?_of_block (w:=w) (by rw [hW])];exact Bi.cell (i*3) j v hj) (by rw [Oq,List.length_drop,Ay];omega) (fun v hv=>Hc v (List.mem_of_mem_drop hv))
  rw [show Nat.min (n+m-i) (n+m-(i+m))=n-i from by rw [show Nat.min (n+m-i) (n+m-(i+m))=n+m-(i+m)from Nat.min_eq_right (by omega)];omega,←IS]at h;exact h
 have hB:(w.setRow g C1).heap[g]?=some (.cells C1 74 (0,0)):=setRow_heap _ _ _ _ _ _ hg;have UN: ∀(W:World),W.heap=(w.setRow g C1).heap→ ∀ty dc,(Builtin.copy_ #[47,47] ty #[.slice (some ⟨g,i*3,none⟩) (n+m-i) dc, .slice (some ⟨vb,0,none⟩) m vc]).run Tryz.prog W= .ok (goInt m) (W.setRow g C2):=fun W hW ty dc=>by
  have h:=SB (P:=Tryz.prog) W 47 47 ty 74 3 g (i*3) (n+m-i) dc ⟨vb,0,none⟩ m vc C1 74 vs Tryz.underlying47 Bz (by rw [hW];exact hB) (by rw [Dl,show Nat.min m (n+m-i)=m from Nat.min_eq_left (by omega)])
   (fun j v hj=>by rw [World.cell?_of_block (w:=w) (by rw [Addr.add_lit,hW];exact setRow_other _ _ _ _ (by simpa using Px))];exact hv.cell 0 j v (by simpa using hj)) (by rw [Un,Dl];omega) IQ
  rw [show Nat.min m (n+m-i)=m from Nat.min_eq_left (by omega),←Q8]at h;exact h
 have fin: ∀W:World,W.os=w.os→W.tape=w.tape→W.output=w.output→W.heap=((w.setRow g C1).setRow g C2).heap→Mw w W 74 3 own (.slice (some ⟨g,0,none⟩) (n+m) cap) (n+m) (cs.take (i*3)++vs++cs.drop (i*3)):=fun W w1 w2 w3 hW=>by refine⟨g,cap,C2,rfl,⟨BY,IY,by rw [hW];exact setRow_heap _ _ _ _ _ _ hB,Uo, ?_⟩,⟨w1,w2,w3,by rw [hW];simp,fun k hk hn=>by rw [hW,setRow_other _ _ _ _ (fun e=>hn (by first|(rw [e];exact Ec)|(rw [←e];exact Ec))),setRow_other _ _ _ _ (fun e=>hn (by first|(rw [e];exact Ec)|(rw [←e];exact Ec)))]⟩, .inl Ec⟩;have h:=zxK C.toList cs vs (i*3) (m*3) (n*3) Bb (Nat.mul_le_mul_right _ (by omega)) Dl (by rw [Array.length_toList,Oq];omega);rw [Q8,IS,Nat.add_mul n m,Nat.add_mul i m];exact h.symm
 have RG: ¬((m:Int)=0):=by omega
 have Pz: ¬((i:Int)=(n:Int)):=by omega
 have nT: ¬((cap:Int)<(n:Int)+(m:Int)):=by omega
 have OF: ¬(cap=i):=by omega
 have lX: ¬(cap=i+m):=by omega
 have MM:IntKind.i64.wrap ((i:Int)+(m:Int))=(i:Int)+(m:Int):=by rw [IntKind.wrap_i64];omega
 have Hy:(0:Int)≤(i:Int)+(m:Int):=by omega
 have U9:i≤n:=by omega
 have nK:((i:Int)+(m:Int)).toNat=i+m:=by omega
 have UF:(i:Int)≤(n:Int):=by omega
 have hb4:(i:Int)≤(n:Int)+(m:Int):=by omega
 have Up:(w.drew).heap=w.heap:=rfl;have lB:(w.drew.setRow g C1).heap=(w.setRow g C1).heap:=rfl;clear IS Q8 hB Bb RB hg
 go_enter Tryz.func228,Tryz.ntmps228
 go_wp2_with (simp only [Vz])
 go_region_law (refine dF rfl _ _ 47 47 rfl (.slice (some ⟨g,(i+m)*3,none⟩) (n+m-(i+m)) (cap-(i+m))) (.slice (some ⟨g,i*3,none⟩) (n+m-i) (cap-i)) (by simp [Act.eval,Act.put]) (by simp [Act.eval,Act.put]) (UM _ Up 3 (cap-(i+m)) (cap-i)) ?_)
 go_wp2_with (at_builtin;refine WG _ rfl _ _ 47 47 rfl _ _ rfl rfl (UN _ lB _ _) ?_)
 go_ret
 exact⟨_,rfl,fin _ rfl rfl rfl rfl⟩
theorem xJ:YT Tryz.prog 228 74 3:=by
 intro w v n i cs own vb vc m VC vs Ay Bi B0 hv Px hm hb IQ Hc;by_cases he:i=n
 ·subst he;refine(sJ w v i cs own Ay Bi vb vc m VC vs hv hm hb IQ).mono ?_;rintro e w' ⟨u,rfl,h⟩;refine⟨u,rfl, ?_⟩;rw [List.take_of_length_le (by omega),List.drop_eq_nil_of_le (by omega),List.append_nil];exact h
 ·rcases Bi with⟨rfl,_⟩|⟨g,cap,C,rfl,hr,hg⟩
  ·omega
  ·by_cases hc:n+m≤cap
   ·exact qJ w n i g cap C cs own vb vc m hr hg (by omega) hc (Px g hg) VC vs hv hm hb IQ Hc
   ·exact rG w n i g cap C cs own vb vc m hr (by omega) (by omega) VC vs hv hm hb IQ Hc
end Go.Proofs.YtollgpkegmbpmaaGreatDoor
end
section
namespace Go.Proofs.YtollgpkegmbpmaaGreatDoor
open Go Go.Proofs Go.Shelf Go.Sort Go.RowKit
set_option maxRecDepth 100000
set_option maxHeartbeats 1000000
def kT (P:Program) (sg:Bq) (f np:Nat) (r:AV):Bool:=
 match P.funcs[f]?,sg f with
 |some fn,some s=>fn.body.isSome&& !(fn.name== "runtime.NumGoroutine")&&KC P fn s r&&s.bg.all (fun m=>match m with| .ro=>true|_=>false)&&fn.params.size==np&&fn.nfree==0&&(s.ft.isEmpty&&s.lo.isEmpty)&&(match fn.resultTypes.toList with| [t,u]=> !Fm P t s.res&& !Fm P u (s.res.drop (AR P t).length)|_=>false)
 |_,_=>false
theorem yL {f:Nat} {xs:List AV} {y1 y2:AV} (hk:kT Tryz.prog B8 f xs.length (.tup [y1,y2])=true) (hc: ∀(w:World) (vs:List Value) (rf:List Nat),EN.n≤w.heap.size→EN.K w→Rd w vs xs rf→Calls Tryz.prog f vs.toArray w fun e w'=>Mod [] w w'∧ ∃v1 v2 f1 f2,e= .returned (.tuple #[v1,v2])∧Rd w' [v1] [y1] f1∧Rd w' [v2] [y2] f2∧ ∀b∈f1++f2,b∈rf∨w.heap.size≤b):Ca Tryz.prog B8 f xs (.tup [y1,y2]):=by
 unfold kT at hk;split at hk
 ·rename_i fn s hf hs;simp only [Ac,Bool.not_eq_true',beq_iff_eq,AN]at hk;obtain⟨⟨⟨⟨⟨⟨⟨h1,h2⟩,h3⟩,h4⟩,h5⟩,h6⟩,CK⟩,h7⟩:=hk;obtain⟨CK,BD⟩:s.ft= []∧s.lo= []:=by simpa using CK
  have Hh: ∀m∈s.bg,m= .ro:=fun m hm=>by
   have:=h4 m hm;split at this
   ·rfl
   ·cases this
  unfold Ca;rw [if_pos (Mh f s hs)];refine⟨s,hs,fn,hf,h1,h2,h3,by omega,by simp [CK],fun w vs rf lf AX Ao hd _ By C6=> ?_⟩;obtain⟨hr,rfl⟩:=Ao.rd BD Hh;refine(hc w vs rf C6.1 C6.2.1 hr).mono ?_;rintro e w' ⟨hm,v1,v2,f1,f2,rfl,Et,CG,hb⟩;refine⟨_,rfl,⟨⟨.tup [y1,y2], [],f1++f2, [], [], [],rfl, ?_,CY.ja ?_ Hh,by simp,by simp,fun b BC=>⟨by simp, ?_⟩⟩,hm⟩⟩
  ·split at h7
   ·rename_i t u ht;simp only [Ac,Bool.not_eq_true']at h7;rw [ht];refine⟨[v1,v2], [y1,y2],rfl,rfl, ?_⟩;have a1:Dr Tryz.prog w' t s.res v1 y1 f1 []:=by
     unfold Dr;rw [if_neg (by rw [h7.1];simp)];exact⟨Et,rfl⟩
    have a2:Dr Tryz.prog w' u (s.res.drop (AR Tryz.prog t).length) v2 y2 f2 []:=by unfold Dr;rw [if_neg (by rw [h7.2];simp)];exact⟨CG,rfl⟩
    have:=Hq.cons a1 (Hq.cons a2 (Hq.nil (P:=Tryz.prog) (w:=w') (fl:=(s.res.drop (AR Tryz.prog t).length).drop (AR Tryz.prog u).length)));simpa using this
   ·cases h7
  ·rw [hr.len];simp [CK];omega
  ·rcases hb b (by simpa using BC)with h|h
   ·exact .inl h
   ·exact .inr (.inr h)
 ·cases hk
def SJ (n:Int):Option (List UInt8):=some (Lib.itoa n)
theorem gA {w:World} (h:EN.K w):Lib.TabIs Tryz.prog w "internal/strconv.uint64pow10" .u64 Lib.pow10Tab:=by obtain⟨_,_,k⟩:=h;exact k.trans (by kernel_rfl)
theorem yY (n:Int) (h0: -9223372036854775808≤n) (h1:n≤9223372036854775807):(Lib.itoa n).length≤9223372036854775807:=by
 have key: ∀(k u:Nat),u<10^k→(Lib.decDigits u).length≤k+1:=by
  intro k
  induction k with
  |zero=>intro u hu;rw [Lib.decDigits,dif_pos (by omega)];simp
  |succ k ih=>
   intro u hu;rw [Lib.decDigits];split
   ·simp
   ·rw [AB,Bk];have:=ih (u/10) (by rw [Nat.pow_succ]at hu;omega);omega
 unfold Lib.itoa;split
 ·rw [AA];have:=key 20 n.natAbs (by omega);omega
 ·have:=key 20 n.toNat (by omega)
  omega
theorem RJ {n:Int} (h:DA .i64 n): -9223372036854775808≤n∧n≤9223372036854775807:=by unfold DA at h;rw [IntKind.wrap_i64]at h;omega
theorem fF (w:World) (k:Nat) (os:Array Obj):Mod [] w (grow (w.drewN k) os):=by
 refine⟨rfl,rfl,rfl, ?_,fun b hb _=> ?_⟩
 ·show w.heap.size≤(w.heap++os).size;rw [Array.size_append];omega
 ·show(w.heap++os)[b]?=w.heap[b]?;rw [Array.getElem?_append_left hb]
theorem rY (a0:Int) (r:List UInt8) (h:SJ a0=some r):Ca Tryz.prog B8 183 [.int .i64 a0] (.str r):=gS (by kernel_rfl) fun w vs rf hK hr=>by obtain⟨us,rfl,hn,hr⟩:=NQ hr;obtain⟨rfl,rfl⟩:=ND hr;cases h;refine(Tryz.strconv_Itoa a0 (RJ hn).1 (RJ hn).2 w (gA hK)).mono ?_;rintro e w' ⟨rfl,k,os,rfl⟩;have hl:=yY a0 (RJ hn).1 (RJ hn).2;exact⟨fF w k os,_, [],rfl,by have:=Rd.str (w:=grow (w.drewN k) os) (s:=⟨(Lib.itoa a0).toArray⟩) (vs:= []) (xs:= []) (f:= []) (by show(Lib.itoa a0).toArray.size≤_;simpa using hl) .nil;simpa using this,by simp⟩
theorem wL (w:World) (ty:TypeId) (t:ByteArray):Mod [] w (Lib.bytesWorld w ty t):=Mod.ej (Lib.bytesWorld_below w ty t) (Nat.le_refl _)
theorem gN (a b c:Int) (w:World):Calls Tryz.prog 107 #[.int .i64 a, .int .i64 b, .int .i64 c] w fun e w'=>e= .returned (.bool (decide (a≥b)&&decide (a≤c)))∧w'=w:=by
 by_cases h1:a≥b
 ·go_enter Tryz.func107,Tryz.ntmps107
  go_wp2
  go_ret
  simp [h1]
 ·go_enter Tryz.func107,Tryz.ntmps107
  go_wp2
  go_ret
  simp;intro h;omega
def Ic (s:List UInt8) (lo hi:Int):Int × Bool:=match Lib.atoiAll s with
 | .ok n=>if lo≤n∧n≤hi∧Lib.itoa n=s then(n,true)else(0,false)
 |_=>(0,false)
theorem yV {s:ByteArray} {w:World} (hs:s.size≤281474976710656) (hK:EN.K w) (h: ∀v,Lib.atoiAll s.data.toList≠ .ok v):
  Calls Tryz.prog 271 #[.string s] w fun e w'=> ∃v te N,e= .returned (.tuple #[.int .i64 v, .iface te (.pointer (some ⟨N,0,none⟩))])∧Mod [] w w':=by
 obtain⟨⟨t1,p1,k1⟩,⟨t2,p2,k2⟩,_⟩:=hK;rcases hA:Lib.atoiAll s.data.toList with v|_|_
 ·exact absurd hA (h v)
 ·exact(Any.strconv_Atoi_syntax_var Tryz.er s hs hA t1 p1 w k1).mono fun e w' ⟨N,he,_,_,hB⟩=>⟨_,_,_,he,Mod.ej hB (Nat.le_refl _)⟩
 ·exact(Any.strconv_Atoi_range_var Tryz.er s hs hA t2 p2 w k2).mono fun e w' ⟨N,he,_,_,hB⟩=>⟨_,_,_,he,Mod.ej hB (Nat.le_refl _)⟩
theorem wF {s:ByteArray} {lo hi:Int} {w:World} (hc:Calls Tryz.prog 271 #[.string s] w fun e w'=> ∃v te N,e= .returned (.tuple #[.int .i64 v, .iface te (.pointer (some ⟨N,0,none⟩))])∧Mod [] w w'):
  Calls Tryz.prog 231 #[.string s, .int .i64 lo, .int .i64 hi] w fun e w'=>e= .returned (.tuple #[.int .i64 0, .bool false])∧Mod [] w w':=by
 go_enter Tryz.func231,Tryz.ntmps231
 go_wp2_with (go_at_call 271;refine hc.mono ?_;rintro e w' ⟨v,te,N,rfl,hm⟩)
 go_ret2
 exact⟨rfl,hm⟩
section
variable (s:ByteArray) (n lo hi:Int) (w:World)
def Oa:Prop:=Calls Tryz.prog 271 #[.string s] w fun e w'=>e= .returned (.tuple #[.int .i64 n, .nilIface])∧Mod [] w w'
theorem xR (hA:Oa s n w) (hw: ∀W,Calls Tryz.prog 107 #[.int .i64 n, .int .i64 lo, .int .i64 hi] W fun e w'=>e= .returned (.bool false)∧w'=W):
  Calls Tryz.prog 231 #[.string s, .int .i64 lo, .int .i64 hi] w fun e w'=>e= .returned (.tuple #[.int .i64 0, .bool false])∧Mod [] w w':=by
 unfold Oa at hA
 go_enter Tryz.func231,Tryz.ntmps231
 go_wp2_with (first|(go_at_call 271;refine hA.mono ?_;rintro e W1 ⟨rfl,hm⟩)|(go_at_call 107;refine(hw _).mono ?_;rintro e W2 ⟨rfl,rfl⟩))
 go_ret2
 exact⟨rfl,hm⟩
theorem uI (q:ByteArray) (hq:(q.toList==s.toList)=false) (hA:Oa s n w) (hw: ∀W,Calls Tryz.prog 107 #[.int .i64 n, .int .i64 lo, .int .i64 hi] W fun e w'=>e= .returned (.bool true)∧w'=W)
  (hI: ∀W1,Mod [] w W1→Calls Tryz.prog 183 #[.int .i64 n] W1 fun e w'=>e= .returned (.string q)∧Mod [] w w'):
  Calls Tryz.prog 231 #[.string s, .int .i64 lo, .int .i64 hi] w fun e w'=>e= .returned (.tuple #[.int .i64 0, .bool false])∧Mod [] w w':=by
 unfold Oa at hA
 go_enter Tryz.func231,Tryz.ntmps231
 go_wp2_with (first|(go_at_call 271;refine hA.mono ?_;rintro e W1 ⟨rfl,hm⟩)|(go_at_call 107;refine(hw _).mono ?_;rintro e W2 ⟨rfl,rfl⟩)|(go_at_call 183;refine(hI _ hm).mono ?_;rintro e W3 ⟨rfl,MJ⟩))
 go_ret2
 exact⟨rfl,MJ⟩
theorem wD (hA:Oa s n w) (hw: ∀W,Calls Tryz.prog 107 #[.int .i64 n, .int .i64 lo, .int .i64 hi] W fun e w'=>e= .returned (.bool true)∧w'=W)
  (hI: ∀W1,Mod [] w W1→Calls Tryz.prog 183 #[.int .i64 n] W1 fun e w'=>e= .returned (.string s)∧Mod [] w w'):
  Calls Tryz.prog 231 #[.string s, .int .i64 lo, .int .i64 hi] w fun e w'=>e= .returned (.tuple #[.int .i64 n, .bool true])∧Mod [] w w':=by
 unfold Oa at hA
 go_enter Tryz.func231,Tryz.ntmps231
 go_wp2_with (first|(go_at_call 271;refine hA.mono ?_;rintro e W1 ⟨rfl,hm⟩)|(go_at_call 107;refine(hw _).mono ?_;rintro e W2 ⟨rfl,rfl⟩)|(go_at_call 183;refine(hI _ hm).mono ?_;rintro e W3 ⟨rfl,MJ⟩))
 go_ret2
 exact⟨rfl,MJ⟩
end
theorem wT (s:ByteArray) (lo hi:Int) (w:World) (hs:s.size≤281474976710656) (hN:EN.n≤w.heap.size) (hK:EN.K w):Calls Tryz.prog 231 #[.string s, .int .i64 lo, .int .i64 hi] w fun e w'=>e= .returned (.tuple #[.int .i64 (Ic s.data.toList lo hi).1, .bool (Ic s.data.toList lo hi).2])∧Mod [] w w':=by
 by_cases Aw: ∃n,Lib.atoiAll s.data.toList= .ok n
 ·obtain⟨n,hA⟩:=Aw;have hR:Ic s.data.toList lo hi=if lo≤n∧n≤hi∧Lib.itoa n=s.data.toList then(n,true)else(0,false):=by
   unfold Ic;rw [hA]
  rw [hR];obtain⟨b0,b1⟩:=Lib.atoiAll_bounds hA;have Um:Calls Tryz.prog 271 #[.string s] w fun e w'=>e= .returned (.tuple #[.int .i64 n, .nilIface])∧Mod [] w w':=by
   refine(Tryz.strconv_Atoi_ok s (by omega) n hA w).mono ?_;rintro e w' ⟨rfl,h|⟨t,h⟩⟩
   ·subst h;exact⟨rfl,Mod.refl _ _⟩
   ·subst h;exact⟨rfl,wL w _ t⟩
  have hI: ∀W1,Mod [] w W1→Calls Tryz.prog 183 #[.int .i64 n] W1 fun e w'=>e= .returned (.string ⟨(Lib.itoa n).toArray⟩)∧Mod [] w w':=by intro W1 hm;have Uq:EN.K W1:=EN.mono (fun b hb=>hm.block b (Nat.lt_of_lt_of_le hb hN) (by simp)) hK;refine(Tryz.strconv_Itoa n b0 b1 W1 (gA Uq)).mono ?_;rintro e w' ⟨rfl,k,os,rfl⟩;exact⟨rfl,hm.trans (fF W1 k os) (by simp)⟩
  by_cases h1:n≥lo∧n≤hi
  ·have hw: ∀W,Calls Tryz.prog 107 #[.int .i64 n, .int .i64 lo, .int .i64 hi] W fun e w'=>e= .returned (.bool true)∧w'=W:=fun W=>by
    have:=gN n lo hi W;rwa [show(decide (n≥lo)&&decide (n≤hi))=true by simp [h1.1,h1.2]]at this
   by_cases h3:Lib.itoa n=s.data.toList
   ·have Ff:(⟨(Lib.itoa n).toArray⟩:ByteArray)=s:=by rw [h3]
    rw [Ff]at hI;simp only [if_pos (⟨h1.1,h1.2,h3⟩:lo≤n∧n≤hi∧Lib.itoa n=s.data.toList)];exact wD s n lo hi w Um hw hI
   ·have Ff:((⟨(Lib.itoa n).toArray⟩:ByteArray).toList==s.toList)=false:=by
     rw [aT,beq_eq_false_iff_ne];exact h3
    simp only [if_neg (fun h:lo≤n∧n≤hi∧Lib.itoa n=s.data.toList=>h3 h.2.2)];exact uI s n lo hi w _ Ff Um hw hI
  ·have hw: ∀W,Calls Tryz.prog 107 #[.int .i64 n, .int .i64 lo, .int .i64 hi] W fun e w'=>e= .returned (.bool false)∧w'=W:=fun W=>by
    have:=gN n lo hi W;rwa [show(decide (n≥lo)&&decide (n≤hi))=false by simp;omega]at this
   simp only [if_neg (fun h:lo≤n∧n≤hi∧Lib.itoa n=s.data.toList=>h1 ⟨h.1,h.2.1⟩)];exact xR s n lo hi w Um hw
 ·have hR:Ic s.data.toList lo hi=(0,false):=by
   unfold Ic;split
   ·rename_i n hn;exact absurd ⟨n,hn⟩ Aw
   ·rfl
  rw [hR];exact wF (yV hs hK fun v hv=>Aw ⟨v,hv⟩)
noncomputable def SN (s:List UInt8) (lo hi:Int):Option (Int × Bool):=req (s.length≤281474976710656) (some (Ic s lo hi))
theorem rI (a0:List UInt8) (a1 a2:Int) (r:Int × Bool) (h:SN a0 a1 a2=some r):Ca Tryz.prog B8 231 [.str a0, .int .i64 a1, .int .i64 a2] (.tup [.int .i64 r.1, .bool r.2]):=by
 obtain⟨hl,h⟩:=Ii h;refine yL (by kernel_rfl) fun w vs rf hN hK hr=> ?_;obtain⟨s,us,rfl,hs,hz,hr⟩:=YC hr;obtain⟨us1,rfl,_,hr⟩:=NQ hr;obtain⟨us2,rfl,_,hr⟩:=NQ hr;obtain⟨rfl,rfl⟩:=ND hr;subst hs;cases h;refine(wT s a1 a2 w (by simpa using hl) hN hK).mono ?_;rintro e w' ⟨rfl,hm⟩;refine⟨hm,_,_, [], [],rfl, .int ?_ .nil, .bool .nil,by simp⟩;unfold Ic;split
 ·rename_i n hn;have:=Lib.atoiAll_bounds hn;split
  ·exact B3 this.1 this.2
  ·exact B3 (by decide) (by decide)
 ·exact B3 (by decide) (by decide)
end Go.Proofs.YtollgpkegmbpmaaGreatDoor
end
section
namespace Go.Proofs.YtollgpkegmbpmaaGreatDoor
open Go.RowKit Go.Sort
set_option maxRecDepth 100000
def jW (P:Program) (sg:Bq) (f:Nat) (t el K:Nat):Bool:=
 match P.funcs[f]?,sg f with
 |some fn,some s=>(match s.bg,s.res,s.ft,s.lo with
  | [.va [true]], [true], [], []=>true
  |_,_,_,_=>false)&&fn.body.isSome&& !(fn.name== "runtime.NumGoroutine")&&fn.params.toList== [t]&&fn.resultTypes.toList== [t]&&fn.nfree==0&& !Aj P t&&AR P t== [t]&&B9 P t==some el&&BE P el&&P.cellsOf el==K&&Fm P t [true]&&fn.params.size==1
 |_,_=>false
theorem tN {w:World} {b q:Nat} {d:Array (List UInt8)} {C:Array Value} {el:TypeId} (h:w.heap[b]?=some (.cells C el (0,0))):
  (putRow encStr (Sort.ahead w q) b 0 d).heap[b]?=some (.cells (Go.Sort.putCells encStr 0 d C) el (0,0)):=by
 show(w.heap.modify b (onCells (Go.Sort.putCells encStr 0 d)))[b]?=_;rw [Array.getElem?_modify,if_pos rfl,h];rfl
theorem u7 {w:World} {b q:Nat} {d:Array (List UInt8)}:Mod [b] w (putRow encStr (Sort.ahead w q) b 0 d):=by
 refine⟨rfl,rfl,rfl, ?_,fun j hj hn=> ?_⟩
 ·show w.heap.size≤(w.heap.modify b (onCells (Go.Sort.putCells encStr 0 d))).size;simp
 ·show(w.heap.modify b (onCells (Go.Sort.putCells encStr 0 d)))[j]?=_;rw [Array.getElem?_modify,if_neg (by simpa [eq_comm]using hn)]
theorem uA (C:Array Value) (r:List (List UInt8)) (z:List (List UInt8)) (h:r.length+z.length≤C.size):(Go.Sort.putCells encStr 0 (r++z).toArray C).toList.take r.length=r.map encStr:=by
 apply List.ext_getElem?;intro j;by_cases hj:j<r.length
 ·have hc:j<C.size:=by omega
  rw [List.getElem?_take,if_pos hj,List.getElem?_map,List.getElem?_eq_getElem hj,Option.map_some,Array.getElem?_toList];have:j<(Go.Sort.putCells encStr 0 (r++z).toArray C).size:=by simp [Go.Sort.putCells];exact hc
  rw [Array.getElem?_eq_getElem this];simp only [Go.Sort.putCells,Array.getElem_mapIdx,Nat.zero_le,true_and,Nat.zero_add,Nat.sub_zero];rw [if_pos (by simp;omega)];have h2:j<(r++z).toArray.size:=by simp;omega
  rw [getElem!_pos _ j h2];simp [hj]
 ·rw [List.getElem?_take,if_neg hj,List.getElem?_eq_none (by simpa using hj)]
theorem zwQ (b:ByteArray):encStr b.data.toList= .string b:=by show Value.string ⟨b.data.toList.toArray⟩= .string b;cases b;simp
theorem iB {w:World}: ∀(r:List (List UInt8)),(∀s∈r,s.length≤9223372036854775807)→Rd w (r.map encStr) (Az (r.map Dw)) []
 | [],_=>by simpa [Az]using Rd.nil
 |s::r,h=>by
  have e:Az ((s::r).map Dw)= .str s::Az (r.map Dw):=by simp [Az,Dw,AV.cells]
  rw [e,List.map_cons];have:=Rd.str (w:=w) (s:=⟨s.toArray⟩) (by show s.toArray.size≤_;simpa using h s (by simp)) (iB r fun x hx=>h x (by simp [hx]));simpa using this
theorem cW {w:World}: ∀{cs:List Value} {xs:List (List UInt8)} {f:List Nat},Rd w cs (Az (xs.map Dw)) f→ ∀s∈xs,s.length≤9223372036854775807
 |cs, [],f,_=>by simp
 |cs,x::xs,f,h=>by
  have e:Az ((x::xs).map Dw)= .str x::Az (xs.map Dw):=by simp [Az,Dw,AV.cells]
  rw [e]at h;cases h with
  |str a h=>
   intro s hs;rcases Ae.1 hs with rfl|hs
   ·simpa using a
   ·exact cW h s hs
theorem cE (zs:List (List UInt8)): ∀s∈Lib.compact zs,s∈zs:=by
 intro s hs;unfold Lib.compact Lib.compactUpTo at hs;obtain⟨j,hj,rfl⟩:=List.mem_map.1 hs;have Au:j<zs.length:=by simpa using(List.mem_filter.1 hj).1
 rw [getElem!_pos _ j (by simpa using Au)];simp
theorem uF {f t el:Nat} (hk:jW Tryz.prog B8 f t el 1=true) (D4: ∀r,QU Tryz.prog B8 f r=true)
  (hC: ∀(blk cap:Nat) (zs:List (List UInt8)) (w:World),Holds encStr w blk 0 zs.toArray→zs.length≤9223372036854775807→zs.length≤cap→
   Calls Tryz.prog f #[.slice (some ⟨blk,0,none⟩) zs.length cap] w fun e w'=>e= .returned (.slice (some ⟨blk,0,none⟩) (Lib.compact zs).length cap)∧ ∃q,w'=putRow encStr (Sort.ahead w q) blk 0 (Lib.compact zs++List.replicate (zs.length-(Lib.compact zs).length) []).toArray)
  (h0: ∀a cap w,Calls Tryz.prog f #[.slice a 0 cap] w fun e w'=>e= .returned (.slice a 0 cap)∧w'=w)
  (xs:List (List UInt8)):Ca Tryz.prog B8 f [.sl (xs.map Dw)] (.sl ((Lib.compact xs).map Dw)):=by
 unfold jW at hk;split at hk
 ·rename_i fn s hf hs;simp only [Ac,Bool.not_eq_true',beq_iff_eq]at hk;obtain⟨⟨⟨⟨⟨⟨⟨⟨⟨⟨⟨⟨g1,g2⟩,g3⟩,g4⟩,g5⟩,g6⟩,g7⟩,g8⟩,g9⟩,g10⟩,g11⟩,g12⟩,g13⟩:=hk;obtain⟨hm,hr,CK,BD⟩:s.bg= [.va [true]]∧s.res= [true]∧s.ft= []∧s.lo= []:=by
   split at g1
   ·rename_i a b c d;exact⟨a,b,c,d⟩
   ·cases g1
  have Ay:=Lib.compact_length_le xs;unfold Ca;rw [if_pos (Mh f s hs)];refine⟨s,hs,fn,hf,g2,g3,by have:=D4 ((Lib.compact xs).map Dw);unfold QU at this;rw [hf,hs]at this;exact this,by simp [g6,g13],by simp [CK],fun w vs rf lf AX Ao hd _ By C6=> ?_⟩;rw [g4,CK,List.append_nil,hm,BD]at Ao;cases Ao with
  |lent h _ _ _=>cases h
  | @cons _ _ _ _ v1 vs1 _ _ f1 k1 rf1 lf1 Bj a1 Ao=>
   cases Ao;obtain⟨rfl,r1⟩:=XK g7 g8 g9 g10 a1;obtain⟨xs',cs,e1,p0,p1,p2,p3,p4,p5⟩:=r1.lp;cases e1;rw [g11]at p0 p1 p2 p5;have fin: ∀{w':World} {v':Value} {top:List Nat},Mod k1 w w'→Ce w' el 1 v' (.sl ((Lib.compact xs).map Dw)) top []→top.Nodup→(∀b∈top,b∈k1∧b<w'.heap.size)→Y4 Tryz.prog fn s w [v1] ([]++ []) (k1++ []) (.sl ((Lib.compact xs).map Dw)) v' w':=by
    intro w' v' top Ci A6 DM BJ;refine⟨⟨_, [], [],top, [], [],rfl, ?_, ?_,by simpa using DM, ?_,by simp⟩,Ci.weaken fun b hb=> .inl (by simp [hb])⟩
    ·rw [g5];show Dr Tryz.prog w' t s.res _ _ [] top;unfold Dr;rw [hr,if_pos g12];refine⟨[v'], [.sl ((Lib.compact xs).map Dw)],by rw [g7];simp, ?_⟩;rw [g8];have:=BR.own (P:=Tryz.prog) (t:=t) (ts:= []) (fl:= [true]) (us:= []) (ys:= []) (rf:= []) (hs:= []) rfl g9 (.inl ⟨g10,rfl⟩) (by rw [g11];exact A6) .nil;simpa using this
    ·rw [g4,CK,List.append_nil,hm];exact .va rfl .nil
    ·intro b hb;simp only [List.append_nil]at hb;exact⟨.inl (by simpa using(BJ b hb).1),(BJ b hb).2⟩
   rcases p5 with⟨Ed,rfl,q,rfl⟩|⟨g,cap,C,rfl,⟨z1,z2,z3,z4,z5⟩,rfl⟩
   ·have B1:xs= []:=by simpa using Ed
    subst B1;refine(h0 q 0 w).mono ?_;rintro e w' ⟨rfl,rfl⟩;have:Lib.compact ([]:List (List UInt8))= []:=rfl;exact⟨_,rfl,fin (Mod.refl _ _) ⟨[],by rw [this];rfl,by simp,by omega, .inl ⟨rfl,⟨q,rfl⟩,rfl,rfl⟩⟩ (by simp) (by simp)⟩
   ·rw [List.length_map]at z1 z5;obtain⟨bs,b1,b2⟩:=bR p3;have MF:=Ev z3;have BF: ∀o,w.cell? ⟨g,o,none⟩=C[o]?:=xD z3;have Bb:cs=xs.map encStr:=by
     rw [b1,←b2,List.map_map];exact List.map_congr_left fun b _=>(zwQ b).symm
    have hH:Holds encStr w g 0 xs.toArray:=by
     intro j hj;have Iq:j<xs.length:=by simpa using hj
     refine⟨?_,bD z3⟩;rw [BF,Nat.zero_add];have e1:C[j]?=cs[j]?:=by rw [z5,List.getElem?_take,if_pos (by omega)];simp
     rw [e1,Bb,List.getElem?_map,List.getElem?_eq_getElem Iq,getElem!_pos _ j hj];simp
    have hc:=hC g cap xs w hH (by unfold maxLen at z2;omega) z1;rw [List.length_map]at fin ⊢;refine hc.mono ?_;rintro e w' ⟨rfl,q,rfl⟩;have J4:=tN (q:=q) (d:=(Lib.compact xs++List.replicate (xs.length-(Lib.compact xs).length) []).toArray) z3;refine⟨_,rfl,fin (top:= [g]) u7 ?_ (by simp) (fun b hb=>by rw [List.mem_singleton]at hb;subst hb;exact⟨by simp,Ev J4⟩)⟩;have BI:=uA C (Lib.compact xs) (List.replicate (xs.length-(Lib.compact xs).length) []) (by rw [List.length_replicate,z4];omega);refine⟨_,rfl,fun y hy=> ?_,by omega, .inr ⟨g,cap,_,by simp,by rw [List.length_map];omega,z2,J4,by simp [Go.Sort.putCells,z4],rfl, ?_, ?_⟩⟩
    ·obtain⟨x,_,rfl⟩:=List.mem_map.1 hy;rfl
    ·rw [List.length_map,Nat.mul_one,BI];intro u hu;obtain⟨x,_,rfl⟩:=List.mem_map.1 hu;rfl
    ·rw [List.length_map,Nat.mul_one,BI];exact iB _ fun s hs=>cW p3 s (cE xs s hs)
 ·cases hk
noncomputable def RS (xs:List (List UInt8)):Option (List (List UInt8)):=some (Lib.compact xs)
theorem o8 (a0 r:List (List UInt8)) (h:RS a0=some r):Ca Tryz.prog B8 94 [.sl (a0.map Dw)] (.sl (r.map Dw)):=by cases h;exact uF (t:=23) (el:=9) (by kernel_rfl) (fun _=>by kernel_rfl) (fun blk cap zs w hH h1 h2=>Tryz.slices_Compact_string blk 0 cap zs w hH h1 h2) (fun a cap w=>Tryz.slices_Compact_string_empty a cap w) a0
end Go.Proofs.YtollgpkegmbpmaaGreatDoor
end

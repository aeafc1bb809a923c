/- Parts of a proof, joined: DA, DB, MA, MB, OB, OG, QA, QO, MC, MD, QT, TF, HB, SP, HL, IA, IC, IB, RI, CM, QM. -/
import Derived.Test.YtollgpkegmbpmaaGreatDoorT6
import Derived.Test.YtollgpkegmbpmaaGreatDoorProg
import Derived.Test.YtollgpkegmbpmaaGreatDoorChecked
import Derived.Shelf.Strings.Builder1
import Derived.Shelf.Strings.Builder2
import Derived.Shelf.Strings.OnBuilder
import Derived.Shelf.Small.Bits
import Derived.Shelf.Small.Strs
import Derived.Shelf.Small.Wraps
import Derived.Shelf.Strings.BuilderF
import Derived.Shelf.Strings.BuilderK
import Derived.Shelf.Utf8.RuneCount
import Derived.Shelf.Strings.Builder2Cap
import Derived.Shelf.Strconv.Atoi
import Derived.Shelf.Strconv.Itoa0
import Derived.Shelf.Strconv.Itoa1
import Derived.Shelf.LaysM
import Derived.Shelf.Strconv.Itoa2
import Derived.Shelf.Strconv.Itoa3
import Derived.Shelf.Strconv.AtoiErrFast
import Derived.Shelf.Strconv.ParseIntEmpty
import Derived.Shelf.Strconv.AtoiFail
import Derived.Shelf.Strconv.Clone
import Derived.Shelf.Strconv.SyntaxError
import Derived.Shelf.LaysC
import Derived.Shelf.Strconv.ToError
import Derived.Shelf.Strconv.Lower
import Derived.Shelf.Strconv.ParseUint10
import Derived.Shelf.Strconv.ParseUint10Empty
import Derived.Shelf.Strconv.ParseUint10Any
import Derived.Shelf.Strconv.ParseInt10
import Derived.Shelf.Strconv.AtoiLong
import Derived.Shelf.Strconv.AtoiInnerAll
import Derived.Shelf.Strconv.RangeError
import Derived.Shelf.Strconv.ToErrorRange
import Derived.Shelf.Strconv.AtoiAll
import Derived.Shelf.Strconv.ErrVarAll
import Derived.Shelf.Strings.Search1
import Derived.Shelf.Strings.Search2
import Derived.Shelf.Strings.Search3
import Derived.Shelf.Strings.Cut
import Derived.Shelf.Strings.Count
import Derived.Shelf.Strings.Shaped
import Derived.Shelf.Strings.Prefix
import Derived.Shelf.Strings.Split
import Derived.Shelf.Strings.SplitShaped
import Derived.Shelf.Unicode.Decode
import Derived.Shelf.Strings.RuneCount
import Derived.Shelf.Strings.Explode
import Derived.Shelf.Unicode.DecodeSlow
import Derived.Shelf.Unicode.DecodeAny
import Derived.Shelf.Strings.BuilderCap
import Derived.Ground.Names2Prog
import Derived.Shelf.Slices.Clone
import Derived.Shelf.Slices.CompactS
import Derived.Shelf.Slices.Cells
import Derived.Ground.SlgnProg
import Derived.Shelf.SlicesE.Clone
import Derived.Laws.CopyRow
import Derived.Lib.AppendZerosOnto
import Derived.Lib.Overlaps
import Derived.Deep.RegionLaw
import Derived.StillTailTactics
import Derived.Deep.QuietTactic
import Derived.Sort.Grow
import Derived.Lib.RowBridge
set_option linter.unusedVariables false
set_option linter.unusedSimpArgs false
noncomputable section
namespace Go.Proofs.YtollgpkegmbpmaaGreatDoor
open Go.RowKit
abbrev Ah:=List UInt8
def X5 (t:TypeId):List Bool:=(AM Tryz.prog t).map fun u=>match Cc Tryz.prog u with|some e=>BC Tryz.prog e|none=>false
def fX (u:TypeId):List Bool:=if u=109 then []else X5 u
def xG (fn:Func):F2:={bj:=fn.params.toList.map fun t=>match IA Tryz.prog t with|some u=> .bx (fX u) (fX u)|none=> .ro,res:=fn.resultTypes.toList.flatMap X5}
def vW (f:Nat):Option F2:=
 match f with
 |8=>some {bj:= [],res:= []}
 |13=>some {bj:= [],res:= []}
 |14=>some {bj:= [.ro, .ro],res:= []}
 |19=>some {bj:= [],res:= []}
 |26=>some {bj:= [],res:= []}
 |28=>some {bj:= [],res:= []}
 |35=>some {bj:= [],res:= []}
 |37=>some {bj:= [],res:= []}
 |38=>some {bj:= [.ro],res:= []}
 |40=>some {bj:= [],res:= []}
 |43=>some {bj:= [],res:= []}
 |49=>some {bj:= [],res:= []}
 |50=>some {bj:= [.ro, .ro, .ro],res:= []}
 |51=>some {bj:= [.ro, .ro, .ro],res:= []}
 |55=>some {bj:= [],res:= []}
 |62=>some {bj:= [.bx [] [], .ro, .ro],res:= []}
 |67=>some {bj:= [.ro, .ro],res:= []}
 |93=>some {bj:= [.mu [true]],res:= []}
 |94=>some {bj:= [.va [true]],res:= [true]}
 |98=>some {bj:= [],res:= []}
 |100=>some {bj:= [.ro, .ro],res:= []}
 |102=>some {bj:= [.bx [] [], .ro, .ro],res:= []}
 |103=>some {bj:= [.bx [] []],res:= []}
 |122=>some {bj:= [.ro, .ro, .ro],res:= []}
 |123=>some {bj:= [.ro, .ro, .ro],res:= []}
 |129=>some {bj:= [.ro, .ro, .bx [true] [true]],res:= [],ft:= [1000000037]}
 |136=>some {bj:= [.bx [] [], .ro, .ro],res:= []}
 |140=>some {bj:= [.ro, .ro],res:= [true],dp:=true}
 |146=>some {bj:= [.ro, .ro],res:= []}
 |147=>some {bj:= [.ro],res:= []}
 |162=>some {bj:= [.va [true], .ro],res:= [true]}
 |163=>some {bj:= [.va [true], .ro],res:= [true],wn:=true}
 |184=>some {bj:= [.mu [true], .ro, .ro, .ro],res:= []}
 |194=>some {bj:= [.ro, .ro, .ro],res:= []}
 |198=>some {bj:= [.mu [true], .ro],res:= []}
 |220=>some {bj:= [.ro, .ro, .ro, .ro],res:= []}
 |228=>some {bj:= [.va [true], .ro, .va [true]],res:= [true]}
 |233=>some {bj:= [.mu [true], .ro, .ro],res:= []}
 |234=>some {bj:= [.mu [true], .ro, .ro],res:= []}
 |235=>some {bj:= [.mu [true], .ro, .ro],res:= []}
 |236=>some {bj:= [.mu [true], .ro, .ro],res:= []}
 |237=>some {bj:= [.mu [true], .ro, .ro],res:= []}
 |238=>some {bj:= [.mu [true], .ro, .ro],res:= []}
 |240=>some {bj:= [.mu [true], .ro, .ro, .ro],res:= []}
 |241=>some {bj:= [.mu [true], .ro, .ro, .ro],res:= []}
 |249=>some {bj:= [.mu [true], .ro, .ro, .ro, .ro],res:= []}
 |273=>some {bj:= [.mu [true], .ro, .ro, .ro],res:= []}
 |276=>some {bj:= [.mu [true], .ro, .bx [false] [false]],res:= []}
 |277=>some {bj:= [.mu [true], .ro, .ro, .ro, .bx [false] [false]],res:= []}
 |280=>some {bj:= [.mu [true], .ro, .ro, .ro],res:= []}
 |281=>some {bj:= [.mu [true], .ro, .ro, .ro],res:= []}
 |282=>some {bj:= [.mu [true], .ro, .ro, .ro],res:= []}
 |283=>some {bj:= [.mu [true], .ro, .ro, .ro],res:= []}
 |284=>some {bj:= [.mu [true], .ro, .ro, .ro],res:= []}
 |285=>some {bj:= [.mu [true], .ro, .ro, .ro],res:= []}
 |286=>some {bj:= [.mu [true], .ro, .ro, .ro, .ro],res:= []}
 |287=>some {bj:= [.mu [true], .ro, .ro, .ro, .ro],res:= []}
 |290=>some {bj:= [.va [true], .ro],res:= [true],wn:=true}
 |305=>some {bj:= [.mu [true], .ro],res:= []}
 |307=>some {bj:= [.mu [true], .ro, .ro, .bx [false] [false]],res:= []}
 |309=>some {bj:= [.mu [true], .ro, .ro, .ro, .ro],res:= []}
 |310=>some {bj:= [.mu [true], .ro, .bx [false] [false], .ro],res:= []}
 |311=>some {bj:= [.mu [true], .ro, .ro, .ro, .bx [false] [false], .ro],res:= []}
 |320=>some {bj:= [.mu [true]],res:= []}
 |330=>some {bj:= [.mu [true], .ro, .ro, .bx [false] [false], .ro],res:= []}
 |_=>none
def gD (f:Nat):Option F2:=match Tryz.prog.funcs[f]? with
 |some fn=>some ((vW f).getD (xG fn))
 |none=>none
def Cb:Bo:={f:=gD}
theorem xP:Tryz.prog.follows .mixedOrders=true:=by kernel_rfl
theorem x7:Tryz.prog.funcs.size<1000000:=by
 have:(decide (Tryz.prog.funcs.size<1000000))=true:=by kernel_rfl
 exact of_decide_eq_true this
theorem No (f:Nat) (s:F2) (h:Cb f=some s):f<1000000:=by
 simp only [Cb]at h;unfold gD at h;split at h
 ·rename_i fn hf;have:=(Array.getElem?_eq_some_iff.1 hf).1;exact Nat.lt_trans this x7
 ·cases h
def Tp (P:Program) (sg:Bo) (f:Nat) (xs:List AV) (r:AV):Bool:=
 match P.funcs[f]?,sg f with
 |some fn,some s=> !(fn.name== "runtime.NumGoroutine")&&Kk P fn s r&&xs.length==fn.params.size+fn.nfree
 |_,_=>false
abbrev Den (t:Tr) (r:AV) (xs:List AV):Prop:=t.den (Cd Tryz.prog Cb) (fun r'=>r'=r) (fun _ _ _ _=>False) [] xs
theorem Jo {f:Nat} {t:Tr} {xs:List AV} {r:AV} (hc:QF Tryz.prog Cb f=some t) (hk:Tp Tryz.prog Cb f xs r=true) (hd:Den t r xs):Cd Tryz.prog Cb f xs r:=by
 unfold Tp at hk;split at hk
 ·rename_i fn s hf hs;simp only [Ad,Bool.not_eq_true',beq_iff_eq]at hk;unfold Cd;rw [if_pos (No f s hs)];exact⟨s,hs,u0 xP No hf hs hk.1.1 hc hk.1.2 hk.2 hd⟩
 ·cases hk
section
variable {Rt:Nat→List AV→AV→Prop} {R:AV→Prop} {L:LK} {js:List JK} {ρ:List AV}
theorem dA {i:EL} {b k:Tr} (hL:H3 L) (I:Nat→List AV→Prop) {m:Nat} (h0:I m (i.den ρ)) (E6: ∀m vs,I m vs→b.den Rt R L ((fun us=> ∃m',m'<m∧I m' us)::(fun us=>k.den Rt R L js (ρ++us))::js) (ρ++vs)):(Tr.loop i b k).den Rt R L js ρ:=by
 have hb: ∀W W':JK,(∀vs,W vs→W' vs)→ ∀vs,b.den Rt R L (W::(fun us=>k.den Rt R L js (ρ++us))::js) (ρ++vs)→b.den Rt R L (W'::(fun us=>k.den Rt R L js (ρ++us))::js) (ρ++vs):=
  fun W W' hW vs hv=>b.en hL hv (.cons hW (De.refl _))
 have mono: ∀n vs,Hf (fun W vs=>b.den Rt R L (W::(fun us=>k.den Rt R L js (ρ++us))::js) (ρ++vs)) n vs→ ∀n',n≤n'→Hf (fun W vs=>b.den Rt R L (W::(fun us=>k.den Rt R L js (ρ++us))::js) (ρ++vs)) n' vs:=by
  intro n
  induction n with
  |zero=>intro vs h;exact h.elim
  |succ n ih=>
   intro vs h n' hn;cases n' with
   |zero=>omega
   |succ n'=>exact hb _ _ (fun us hu=>ih us hu n' (by omega)) vs h
 have key: ∀m vs,I m vs→Hf (fun W vs=>b.den Rt R L (W::(fun us=>k.den Rt R L js (ρ++us))::js) (ρ++vs)) (m+1) vs:=by
  intro m
  induction m using Nat.strongRecOn with
  |_ m ih=>intro vs hI;exact hb _ _ (fun us ⟨m',hm,hu⟩=>mono _ _ (ih m' hm us hu) m (by omega)) vs (E6 m vs hI)
 exact⟨m+1,key m _ h0⟩
theorem V7:H3 (fun _ _ _ _=>False):=fun _ _ _ _ _ _ h=>h
end
@[simp] theorem zJ (ρ:List AV):AU ρ []↔True:=⟨fun _=>trivial,fun _=>DS ρ⟩
@[simp] theorem zN (ρ:List AV) (x:E) (b:Bool) (gs:Gd):AU ρ ((x,b)::gs)↔x.den ρ= .bool b∧AU ρ gs:=
 ⟨fun h=>⟨h (x,b) (by simp),fun g hg=>h g (by simp [hg])⟩,fun h g hg=>by rcases Ae.1 hg with rfl|hg;exact h.1;exact h.2 g hg⟩
attribute [simp] E.den EL.den Cn.den AV.fld AV.proj AV.deref AV.len AV.slen AV.idx AV.nth AV.dw AV.gr AV.conv AV.bin AV.bbin AV.sbin AV.app AV.cg AV.rep
@[simp] theorem zH (cs:List AV):(AV.agg cs).cells=cs:=rfl
@[simp] theorem zO (k:IntKind) (n:Int):(AV.int k n).cells= [.int k n]:=rfl
@[simp] theorem zF (b:Bool):(AV.bool b).cells= [.bool b]:=rfl
@[simp] theorem zC (s:Ah):(AV.str s).cells= [.str s]:=rfl
@[simp] theorem zP (xs:List AV):(AV.sl xs).cells= [.sl xs]:=rfl
@[simp] theorem zG (k:IntKind) (n:Int):(AV.int k n).scalar=true:=rfl
@[simp] theorem zD (b:Bool):(AV.bool b).scalar=true:=rfl
@[simp] theorem zE (s:Ah):(AV.str s).scalar=true:=rfl
@[simp] theorem zM (b c d:Bool):AV.cond (.bool b) (.bool c) (.bool d)= .bool (bif b then c else d):=by cases b<;>rfl
theorem o6 {y:AV} (h:y.scalar=true):y.cells= [y]:=by cases y<;>first|rfl|simp [AV.scalar]at h
theorem B0 {n:Int} (h1: -9223372036854775808≤n) (h2:n≤9223372036854775807):IntKind.i64.wrap n=n:=by rw [IntKind.wrap_i64];omega
end Go.Proofs.YtollgpkegmbpmaaGreatDoor
end
noncomputable section
namespace Go.Proofs.YtollgpkegmbpmaaGreatDoor
open Go.RowKit
section
variable {Rt:Nat→List AV→AV→Prop} {R:AV→Prop} {L:LK} {js:List JK} {ρ:List AV}
theorem CI {gs:Gd} {c:Cn} {k:Tr} (h:AU ρ gs→c.den ρ) (hk:k.den Rt R L js ρ):(Tr.bc gs c k).den Rt R L js ρ:=⟨h,hk⟩
theorem W6 {gs:Gd} {f:Nat} {args:EL} {k:Tr} {r:AV} (h:AU ρ gs→Rt f (args.den ρ) r) (hk:k.den Rt R L js (ρ++ [r])):(Tr.call gs (.inl f) args k).den Rt R L js ρ:=⟨r,h,hk⟩
theorem WD {gs:Gd} {x:E} {args:EL} {k:Tr} {r:AV} (h:AU ρ gs→ ∃g caps,x.den ρ= .fn g caps∧Rt (1000000+g) (args.den ρ++caps) r∧ ∀y∈r.cells,y.scalar=true) (hk:k.den Rt R L js (ρ++ [r])):(Tr.call gs (.inr x) args k).den Rt R L js ρ:=⟨r,h,hk⟩
theorem Fm {c:E} {a b:Tr} {t:Bool} (h:c.den ρ= .bool t) (ha:t=true→a.den Rt R L js ρ) (hb:t=false→b.den Rt R L js ρ):(Tr.ite c a b).den Rt R L js ρ:=⟨t,h,ha,hb⟩
theorem Jl {r:E} (h:R (r.den ρ)):(Tr.ret r).den Rt R L js ρ:=h
theorem PX {es:EL} {j:JK} (h:j (es.den ρ)):(Tr.jmp 0 es).den Rt R L (j::js) ρ:=h
theorem W7 {es:EL} {i j:JK} (h:j (es.den ρ)):(Tr.jmp 1 es).den Rt R L (i::j::js) ρ:=h
end
def dO (cn:Nat) (xs:List AV):Prop:= ∀x∈xs,∃cs,x= .agg cs∧cs.length=cn
theorem dO.at {cn:Nat} {xs:List AV} (h:dO cn xs) {q:Nat} (hq:q<xs.length): ∃cs,xs[q]= .agg cs∧cs.length=cn:=h _ (List.getElem_mem hq)
section
variable {Rt:Nat→List AV→AV→Prop} {R:AV→Prop} {L:LK} {js:List JK} {ρ:List AV} {α β σ τ:Type}
theorem u5 {x:E} {sz:Nat} {xs:List α} (f:α→AV) (hx:x.den ρ= .sl (xs.map f)) (hf: ∀y,(f y).cells.length=sz∧ ∀z∈(f y).cells,z.scalar=true):Cn.den ρ (.flatS x sz):=⟨_,hx,by simp only [List.mem_map];rintro _ ⟨y,_,rfl⟩;exact hf y⟩
end
@[simp] def NF (n:Int):AV:= .int .u8 n
@[simp] def Nu (x:Ah):AV:= .str x
attribute [simp] BM Nq AV.sidx AV.aeq AV.leq AV.seq AV.sk AV.cj AV.bytes AV.text
end Go.Proofs.YtollgpkegmbpmaaGreatDoor
end
noncomputable section
namespace Go.Proofs.YtollgpkegmbpmaaGreatDoor
open Go.RowKit
section
variable {P:Program} {w:World}
theorem CQ.gp {ts:List TypeId} {vs:List Value} {xs:List AV} {rf lf hs:List Nat} (h:CQ P w ts [] [] vs xs rf lf hs): ∀(ms:List PM) (lo:List Bool),(∀m∈ms,m= .ro)→CQ P w ts ms lo vs xs rf lf hs:=by
 generalize hm:([]:List PM)=m0 at h;generalize hn:([]:List Bool)=n0 at h
 induction h with
 |nil=>intro ms lo _;exact .nil
 |lent h1 _ _ _ _=>subst hn;cases h1
 | @cons t ts ms' lo' v vs x xs f h rf lf hs AN _ ih=>
  subst hm;subst hn;intro ms lo DG;refine .cons ?_ (ih rfl rfl ms.tail lo.tail fun m hm=>DG m (List.mem_of_mem_tail hm));have:ms.headD .ro= .ro:=by cases ms with|nil=>rfl|cons m ms=>exact DG m (by simp)
  rw [this];exact AN
 |free h1 _ ih=>subst hm;subst hn;intro ms lo DG;exact .free h1 (ih rfl rfl ms.tail lo.tail fun m hm=>DG m (List.mem_of_mem_tail hm))
theorem C5.gp {ts:List TypeId} {ms:List PM} {vs:List Value} {Bs:List AV} {f o:List Nat} (h:C5 P w ts ms vs Bs f o) (DG: ∀m∈ms,m= .ro):C5 P w ts [] vs Bs f o:=by
 have hd: ∀{ms:List PM},(∀m∈ms,m= .ro)→ms.headD .ro= .ro:=by intro ms h;cases ms with|nil=>rfl|cons m ms=>exact h m (by simp)
 induction h with
 |nil=>exact .nil
 |ro _ _ ih=>exact .ro rfl (ih fun m hm=>DG m (List.mem_of_mem_tail hm))
 |va h9 _ _=>rw [hd DG]at h9;cases h9
 |mu h9 _ _ _ _=>rw [hd DG]at h9;cases h9
 |bx h9 _ _ _ _ _ _ _ _=>rw [hd DG]at h9;cases h9
end
def Xv (f:Nat) (r:AV):Bool:=
 match Tryz.prog.funcs[f]?,Cb f with
 |some fn,some s=>s.bj.all (fun m=>match m with| .ro=>true|_=>false)&&s.ft.isEmpty&&(match fn.resultTypes.toList with| [t]=> !Ft Tryz.prog t s.res|_=>false)&&Kk Tryz.prog fn {bj:= [],res:= []} r
 |_,_=>false
theorem sG {f:Nat} {xs:List AV} {r:AV} (h:Cd Tryz.prog Cb f xs r) (hp:Xv f r=true):Cd Tryz.prog Cb (1000000+f) xs r:=by
 unfold Xv at hp;split at hp
 ·rename_i fn s hf hs;simp only [Ad,AJ]at hp;obtain⟨⟨⟨h1,Dt⟩,h2⟩,h3⟩:=hp;have Dt:s.ft= []:=by simpa using Dt
  have G5: ∀m∈s.bj,m= .ro:=fun m hm=>by
   have:=h1 m hm;split at this
   ·rfl
   ·cases this
  unfold Cd at h ⊢;rw [if_pos (No f s hs)]at h;rw [if_neg (by omega),Nat.add_sub_cancel_left];obtain⟨s',AT,fn',Oh,hb,hn,_,hl,_,hc⟩:=h;rw [hs]at AT;cases AT;rw [hf]at Oh;cases Oh;rw [Dt]at hc;refine⟨fn,hf,hb,hn,h3,hl,by simp,fun w vs rf lf AT Ao hd QU BF Dl=>(hc w vs rf lf AT (Ao.gp _ _ G5) hd QU BF Dl).mono ?_⟩;rintro e w' ⟨v,rfl,⟨R,Bs,f1,o1,f2,o2,e1,e2,e3,e4,e5,e6⟩,hm⟩;rw [Dt]at e3;refine⟨v,rfl,⟨R,Bs,f1,o1,f2,o2,e1, ?_,e3.gp G5,e4,e5,e6⟩,hm⟩;unfold IB at e2 ⊢;split at h2
  ·rename_i t ht;rw [ht]at e2 ⊢;simp only at e2 ⊢;unfold DO at e2 ⊢;have h2:Ft Tryz.prog t s.res=false:=by simpa using h2
   rw [if_neg (by rw [h2];simp)]at e2;rw [if_neg (by simp [Ft])];exact e2
  ·cases h2
 ·cases hp
section
variable {Rt:Nat→List AV→AV→Prop} {R:AV→Prop} {L:LK} {js:List JK} {ρ:List AV}
theorem dL {i:EL} {b k:Tr} (hL:H3 L) (n:Nat) (st:Nat→List AV) (J:Nat→Prop) (hJ:J 0) (h0:i.den ρ=st 0) (hb: ∀q,q≤n→J q→ ∀W:JK,(q<n→J (q+1)→W (st (q+1)))→b.den Rt R L (W::(fun us=>k.den Rt R L js (ρ++us))::js) (ρ++st q)):(Tr.loop i b k).den Rt R L js ρ:=by refine dA hL (fun m vs=> ∃q,q+m=n∧vs=st q∧J q) (m:=n) ⟨0,by omega,h0,hJ⟩ ?_;rintro m vs ⟨q,hq,rfl,hj⟩;exact hb q (by omega) hj _ fun Am Mi=>⟨m-1,by omega,q+1,by omega,rfl,Mi⟩
end
def Tf (cn:Nat):Tr:=
 .bc [] (.dfd (.len (.var 0)))<|
 .loop (.cons (.int .i64 (0)) .nil) (
  .bc [] (.dfd (.bin .lss (.var 2) (.len (.var 0))))<|
  .ite (.bin .lss (.var 2) (.len (.var 0))) (
  .bc [] (.inb (.var 2) (.var 0) cn)<|
  .call [] (.inr (.var 1)) (.cons (.fld (.idx (.var 0) (.var 2)) 0 cn true) .nil)<|
  .ite (.var 3) (
   .ret (.var 2)) (
   .bc [] (.dfd (.bin .add (.var 2) (.int .i64 (1))))<|
   .jmp 0 (.cons (.bin .add (.var 2) (.int .i64 (1))) .nil))) (
  .jmp 1 .nil)) (
  .ret (.int .i64 (-1)))
def XE:Tr:=
 .bc [] (.dfd (.len (.var 0)))<|
 .loop (.cons (.int .i64 (0)) .nil) (
  .bc [] (.dfd (.bin .lss (.var 2) (.len (.var 0))))<|
  .ite (.bin .lss (.var 2) (.len (.var 0))) (
  .bc [] (.inb (.var 2) (.var 0) 1)<|
  .call [] (.inr (.var 1)) (.cons (.fld (.idx (.var 0) (.var 2)) 0 1 false) .nil)<|
  .ite (.var 3) (
   .ret (.var 2)) (
   .bc [] (.dfd (.bin .add (.var 2) (.int .i64 (1))))<|
   .jmp 0 (.cons (.bin .add (.var 2) (.int .i64 (1))) .nil))) (
  .jmp 1 .nil)) (
  .ret (.int .i64 (-1)))
def EF {α:Type} (p:α→Option Bool):List α→Int→Option Int
 | [],_=>some (-1)
 |x::xs,i=>(p x).bind fun b=>if b=true then some i else EF p xs (i+1)
def HU {α:Type} (xs:List α) (p:α→Option Bool):Option Int:=req (xs.length≤9223372036854775806) (EF p xs 0)
def Gg {α:Type} (xs:List α) (p:α→Option Bool):Option Bool:=(HU xs p).bind fun i=>some (decide (i≥0))
def Xn {α:Type} (bytes:Nat) (xs:List α):Option (List α):=req ((xs.length:Int)*bytes≤140737488355328∧(xs.length:Int)≤140737488355328) (some xs)
theorem aV {α:Type} {p:α→Option Bool} {l:List α} {r:Int} {q:Nat} (hq:q<l.length) (h:EF p (l.drop q) q=some r): ∃b,p l[q]=some b∧(b=true→r=q)∧(b=false→EF p (l.drop (q+1)) ((q+1:Nat):Int)=some r):=by
 rw [List.drop_eq_getElem_cons hq]at h;obtain⟨b,hb,h⟩:=Ix h;refine⟨b,hb, ?_, ?_⟩
 ·rintro rfl;simpa using h.symm
 ·rintro rfl;simpa using h
theorem eJ {α:Type} {av:α→AV} {l:List α} {p:α→Option Bool} {cn g:Nat} {caps:List AV} {r:Int} (hs: ∀x,∃cs,av x= .agg cs∧cs.length=cn) (h:HU l p=some r) (hf: ∀x b,p x=some b→Cd Tryz.prog Cb (1000000+g) (av x::caps) (.bool b)):Den (Tf cn) (.int .i64 r) [.sl (l.map av), .fn g caps]:=by
 obtain⟨hn,h⟩:=Gv h;unfold Den Tf;refine CI (by simp) ?_;refine dL V7 l.length (fun q=> [.int .i64 q]) (fun q=>EF p (l.drop q) q=some r) (by simpa using h) (by simp) fun q hq hJ W hW=> ?_;by_cases Am:q<l.length
 ·obtain⟨cs,hc,hl⟩:=hs l[q];obtain⟨b,hb,Gy,GZ⟩:=aV Am hJ;refine CI (by simp [BM]) (Fm (t:=true) (by simp [BM,Am]) (fun _=> ?_) (by simp));refine CI (fun _=>⟨.i64,q,l.length,by simp,by omega,by simp,by omega,by simp [Am,hc,hl]⟩) (WD (r:= .bool b) (fun _=>⟨g,caps,by simp, ?_,by simp⟩) ?_)
  ·have:=hf l[q] b hb;rw [hc]at this;simpa [Am,hc,←hl]using this
  ·cases b with
   |true=>exact Fm (t:=true) (by simp) (fun _=>Jl (by simp [Gy rfl])) (by simp)
   |false=>refine Fm (t:=false) (by simp) (by simp) fun _=>CI (by simp [BM]) (PX ?_);have:=hW Am (GZ rfl);simpa [BM,B0 (n:=(q:Int)+1) (by omega) (by omega)]using this
 ·have G3:q=l.length:=by omega
  subst G3;have hr:r= -1:=by simpa [EF]using hJ.symm
  refine CI (by simp [BM]) (Fm (t:=false) (by simp [BM]) (by simp) fun _=>W7 ?_);exact Jl (by simp [hr])
theorem tQ {α:Type} {av:α→AV} {l:List α} {p:α→Option Bool} {g:Nat} {caps:List AV} {r:Int} (hs: ∀x,(av x).cells= [av x]) (h:HU l p=some r) (hf: ∀x b,p x=some b→Cd Tryz.prog Cb (1000000+g) (av x::caps) (.bool b)):Den XE (.int .i64 r) [.sl (l.map av), .fn g caps]:=by
 obtain⟨hn,h⟩:=Gv h;unfold Den XE;refine CI (by simp) ?_;refine dL V7 l.length (fun q=> [.int .i64 q]) (fun q=>EF p (l.drop q) q=some r) (by simpa using h) (by simp) fun q hq hJ W hW=> ?_;by_cases Am:q<l.length
 ·obtain⟨b,hb,Gy,GZ⟩:=aV Am hJ;refine CI (by simp [BM]) (Fm (t:=true) (by simp [BM,Am]) (fun _=> ?_) (by simp));refine CI (fun _=>⟨.i64,q,l.length,by simp,by omega,by simp,by omega,by simp [Am,hs]⟩) (WD (r:= .bool b) (fun _=>⟨g,caps,by simp, ?_,by simp⟩) ?_)
  ·have:=hf l[q] b hb;simpa [Am,hs]using this
  ·cases b with
   |true=>exact Fm (t:=true) (by simp) (fun _=>Jl (by simp [Gy rfl])) (by simp)
   |false=>refine Fm (t:=false) (by simp) (by simp) fun _=>CI (by simp [BM]) (PX ?_);have:=hW Am (GZ rfl);simpa [BM,B0 (n:=(q:Int)+1) (by omega) (by omega)]using this
 ·have G3:q=l.length:=by omega
  subst G3;have hr:r= -1:=by simpa [EF]using hJ.symm
  refine CI (by simp [BM]) (Fm (t:=false) (by simp [BM]) (by simp) fun _=>W7 ?_);exact Jl (by simp [hr])
def Qo (f:Nat):Tr:=
 .call [] (.inl f) (.cons (.var 0) (.cons (.var 1) .nil))<|
 .bc [] (.dfd (.bin .geq (.var 2) (.int .i64 (0))))<|
 .ret (.bin .geq (.var 2) (.int .i64 (0)))
theorem Xd {α:Type} {l:List α} {p:α→Option Bool} {f:Nat} {x y:AV} {r:Bool} (h:Gg l p=some r) (hf: ∀i,HU l p=some i→Cd Tryz.prog Cb f [x,y] (.int .i64 i)):Den (Qo f) (.bool r) [x,y]:=by obtain⟨i,hi,h⟩:=Ix h;unfold Den Qo;refine W6 (fun _=>by simpa using hf i hi) (CI (by simp [BM]) (Jl ?_));simp only [Ac]at h;simp [BM,←h]
def Xy (bytes sz:Nat):Tr:=
 .bc [] (.dfd (.len (.var 0)))<|
 .a8 [] (.var 0)<|
 .ite (.var 1) (
  .ret (.lst .nil)) (
  .bc [] (.room (.lst .nil) (.var 0) bytes)<|
  .bc [] (.flatS (.var 0) sz)<|
  .ret (.app (.lst .nil) (.var 0)))
theorem tE {α:Type} {av:α→AV} {xs r:List α} {bytes sz:Nat} (hs: ∀x,(av x).cells.length=sz∧ ∀z∈(av x).cells,z.scalar=true) (h:Xn bytes xs=some r):Den (Xy bytes sz) (.sl (r.map av)) [.sl (xs.map av)]:=by
 obtain⟨hq,h⟩:=Gv h;cases h;unfold Den Xy;refine CI (by simp) fun b hb=> ?_;cases b with
 |true=>have:=hb (by simp) rfl;exact Fm (t:=true) (by simp) (fun _=>Jl (by simpa using this.symm)) (by simp)
 |false=>exact Fm (t:=false) (by simp) (by simp) fun _=>CI (fun _=>⟨0,xs.length,by simp,by simp,by simpa using hq.1,by simpa using hq.2⟩) (CI (fun _=>u5 (xs:=xs) av (by simp) hs) (Jl (by simp)))
end Go.Proofs.YtollgpkegmbpmaaGreatDoor
end
noncomputable section
namespace Go.Proofs.YtollgpkegmbpmaaGreatDoor
open Go.ChangeShapes Go.WideShapes Go.ChangeAt Go.RowKit
theorem uO {P:Program} {w:World}:CQ P w [] [] [] [] [] [] [] []:= .nil
theorem bC {P:Program} {w:World} {t:TypeId} {ts:List TypeId} {v:Value} {vs:List Value} {x:AV} {xs:List AV} {f rf:List Nat} (h:Rd w [v] [x] f) (k:CQ P w ts [] [] vs xs rf [] []):CQ P w (t::ts) [] [] (v::vs) (x::xs) (f++rf) [] []:=
 CQ.cons (h:= []) (hs:= []) (ms:= []) (lo:= []) ⟨h,rfl⟩ k
theorem uT {P:Program} {sg:Bo} {f:Nat} {fn:Func} {t:TypeId} {xs:List AV} (h:Cd P sg f xs (.bool true)) (hf:f<1000000) {s:F2} (hs:sg f=some s) (Dt:s.ft= []) (G5: ∀m∈s.bj,m= .ro) (Ea:Ft P t s.res=false) (FF:P.funcs[f]?=some fn) (hr:fn.resultTypes.toList= [t])
  {w:World} {vs:List Value} {rf:List Nat} (ha:CQ P w fn.params.toList [] [] vs xs rf [] []) (Dl:Ey.n≤w.heap.size∧Ey.K w):
  Calls P f vs.toArray w fun e w'=>e= .returned (.bool true)∧Below w.heap.size w w':=by
 unfold Cd at h;rw [if_pos hf]at h;obtain⟨s',AT,fn',Hr,_,_,_,_,_,hc⟩:=h;rw [hs]at AT;obtain rfl:=Option.some.inj AT;rw [FF]at Hr;obtain rfl:=Option.some.inj Hr;refine(hc w vs rf [] [] (by rw [Dt,List.append_nil];exact ha.gp _ _ G5) (by simp) (by simp) (by simp) ⟨Dl.1,Dl.2,by simp⟩).mono fun e w' ⟨v,he,hp⟩=> ?_;obtain⟨⟨R,bs,f1,o1,f2,o2,hR,AG,_⟩,hm⟩:=hp;have iH:R= .bool true:=by
  cases bs with
  |nil=>exact hR.symm
  |cons=>cases hR
 subst iH;rw [hr]at AG;have h2:DO P w' t s.res v (.bool true) f1 o1:=AG;unfold DO at h2;rw [Ea]at h2;obtain⟨h3,_⟩:=h2;have:v= .bool true:=by cases h3;rfl
 subst this;exact⟨he,hm.below⟩
section
variable {P:Program} {t:TypeId} {Q:List AV→Prop} {H:Type} {enc:TypeId × Value→H} {w:World} {spare:Nat→Bool} {held:Bool} {v:Value} {d:DataW H} {p:List MemPlace} {r:Reach} {base:Nat}
theorem vO (hO:F1 P t Q) (hc:v.cells= #[v]) (h:DataW.Trod enc P w 0 spare held t v d p): ∃x f,Rd w [v] [x] f∧Q [x]:=by
 obtain⟨n,h⟩:=h;rw [hc]at h;obtain⟨_,_,xs,f,hr,hq⟩:=hO.2 _ _ _ _ _ _ _ _ h;have hl:=hr.len
 match xs,hl with
 | [x],_=>exact⟨x,f,hr,hq⟩
theorem bF {e:TypeId} (hO:F1 P t Q) (ht:P.underlying t=some (.slice e)) (hv:Value.okWide P w r base t v) (h:DataW.Trod enc P w 0 spare held t v d p): ∃x f,Rd w [v] [x] f∧Q [x]:=by obtain⟨a,l,c,rfl⟩:=okWide_slice ht hv;exact vO hO rfl h
end
theorem vY {a b:Bool} (ha:a=true) (hb:b=true):(a&&b)=true:=by rw [ha,hb];rfl
def L7 (n:Int):Prop:=0≤n∧n≤255
def Rg {α:Type} (ok:α→Prop) (l:List α):Prop:=l.length≤9223372036854775807∧ ∀x∈l,ok x
theorem x4 {n:Int} (h:DP .u8 n):L7 n:=by unfold DP at h;simp only [IntKind.wrap,IntKind.bits,IntKind.signed]at h;unfold L7;simp at h;omega
section
variable {P:Program} {t e:TypeId} {α:Type} {ok:α→Prop} {av:α→AV}
theorem xU (ht:P.underlying t=some (.int .u8)) (hc:P.cellsOf t=1):F1 P t fun xs=> ∃n,L7 n∧xs= [NF n]:=
 (vD ht hc).mono fun _ ⟨n,h,e⟩=>⟨n,x4 h,e⟩
theorem cC: ∀{ys:List AV},(∀y∈ys,Ib false (fun xs=> ∃c,ok c∧xs= [av c]) y)→ ∃l:List α,(∀c∈l,ok c)∧ys=l.map av
 | [],_=>⟨[],by simp,rfl⟩
 |y::ys,h=>by obtain⟨l,hl,rfl⟩:=cC fun z hz=>h z (List.mem_cons_of_mem _ hz);have h0:=h y (List.mem_cons_self ..);simp only [Ib,AY,if_false]at h0;obtain⟨_,c,hk,hc⟩:=h0;exact⟨c::l,by simpa using⟨hk,hl⟩,by simp at hc;simp [hc]⟩
theorem xK (ht:P.underlying t=some (.slice e)) (hc:P.cellsOf t=1) (JF:P.cellsOf e=1) (he:F1 P e fun xs=> ∃c,ok c∧xs= [av c]):F1 P t fun xs=> ∃l:List α,Rg ok l∧xs= [.sl (l.map av)]:=
 (rZ false ht hc he (.inr JF)).mono fun _ ⟨ys,hl,hy,e⟩=>by obtain⟨l,hk,rfl⟩:=cC hy;exact⟨l,⟨by simpa using hl,hk⟩,e⟩
end
end Go.Proofs.YtollgpkegmbpmaaGreatDoor
end
noncomputable section
namespace Go.Proofs.YtollgpkegmbpmaaGreatDoor
open Go.RowKit
set_option maxRecDepth 100000
structure Aa where
 ab:Ah
 al:Ah
 ar:Bool
@[simp] def vN (x:Aa):AV:= .agg [.str x.ab, .str x.al, .bool x.ar]
structure AE where
 ao:List Int
 cf:Int
 aq:Int
@[simp] def wU (x:AE):AV:= .agg [.sl (x.ao.map NF), .int .i64 x.cf, .int .u64 x.aq]
structure Ap where
 ae:Int
 ab:Ah
 al:Ah
 cd:Int
@[simp] def yA (x:Ap):AV:= .agg [.int .i64 x.ae, .str x.ab, .str x.al, .int .i64 x.cd]
structure A9 where
 ab:Ah
 al:Ah
 c7:Bool
@[simp] def xR (x:A9):AV:= .agg [.str x.ab, .str x.al, .bool x.c7]
structure Dr where
 ax:Ah
 dh:Int
 c8:Int
@[simp] def gM (x:Dr):AV:= .agg [.str x.ax, .int .i64 x.dh, .int .i64 x.c8]
structure BE where
 ax:Ah
 ct:List (Ah)
 bu:List Dr
@[simp] def wT (x:BE):AV:= .agg [.str x.ax, .sl (x.ct.map Nu), .sl (x.bu.map gM)]
structure En where
 bp:List (Ah)
@[simp] def xL (x:En):AV:= .agg [.sl (x.bp.map Nu)]
structure EA where
 ae:Int
 db:En
 dd:En
@[simp] def uD (x:EA):AV:= .agg [.int .i64 x.ae, .sl (x.db.bp.map Nu), .sl (x.dd.bp.map Nu)]
structure gB where
 ae:Int
 ik:EA
 ln:Ah
 l0:Ah
 ku:Ah
@[simp] def wP (x:gB):AV:= .agg [.int .i64 x.ae, .int .i64 x.ik.ae, .sl (x.ik.db.bp.map Nu), .sl (x.ik.dd.bp.map Nu), .str x.ln, .str x.l0, .str x.ku]
end Go.Proofs.YtollgpkegmbpmaaGreatDoor
end
noncomputable section
namespace Go.Proofs.YtollgpkegmbpmaaGreatDoor
open Go.ChangeShapes Go.WideShapes Go.ChangeAt Go.RowKit
set_option maxRecDepth 100000
theorem lB:F1 Tryz.prog 5 fun xs=> ∃n,L7 n∧xs= [NF n]:=xU Tryz.underlying5 (by kernel_rfl)
theorem YK:F1 Tryz.prog 22 fun xs=> ∃l:List Int,Rg L7 l∧xs= [.sl (l.map NF)]:=xK Tryz.underlying22 (by kernel_rfl) (by kernel_rfl) lB
end Go.Proofs.YtollgpkegmbpmaaGreatDoor
end
noncomputable section
namespace Go.Proofs.YtollgpkegmbpmaaGreatDoor
open Go.RowKit
set_option maxRecDepth 100000
def Iq {α:Type} (p:α→Option Bool):List α→Option (List α)
 | []=>some []
 |x::xs=>(p x).bind fun b=>(Iq p xs).bind fun r=>some (if b=true then r else x::r)
def Pr {α:Type} (xs:List α) (p:α→Option Bool):Option (List α):=req (xs.length≤9223372036854775806) (Iq p xs)
theorem Wn {α:Type} {p:α→Option Bool} (q:α→Bool): ∀{l:List α},(∀x∈l,p x=some (q x))→Iq p l=some (l.filter fun x=> !q x)
 | [],_=>rfl
 |x::l,h=>by have e:=Wn (p:=p) q (l:=l) fun y hy=>h y (List.mem_cons_of_mem _ hy);simp only [Iq,h x (by simp),e,Ab,List.filter_cons];cases q x<;>rfl
theorem oJ {α:Type} {p:α→Option Bool} {l r:List α} {q:Nat} (hq:q<l.length) (h:Iq p (l.drop q)=some r): ∃b r',p l[q]=some b∧Iq p (l.drop (q+1))=some r'∧r=if b=true then r' else l[q]::r':=by rw [List.drop_eq_getElem_cons hq]at h;obtain⟨b,hb,h⟩:=Ix h;obtain⟨r',hr,h⟩:=Ix h;exact⟨b,r',hb,hr,by simpa using h.symm⟩
theorem ZM {α:Type} {p:α→Option Bool}: ∀{l r:List α} (i:Int),Iq p l=some r→(EF p l i=some (-1)∧r=l)∨ ∃k r',k<l.length∧EF p l i=some (i+(k:Nat))∧Iq p (l.drop (k+1))=some r'∧r=l.take k++r'
 | [],r,i,h=>by cases h;exact .inl ⟨rfl,rfl⟩
 |x::l,r,i,h=>by
  obtain⟨b,hb,h⟩:=Ix h;obtain⟨r1,hr,h⟩:=Ix h;cases b with
  |true=>
   have:r1=r:=by simpa using h
   subst this;exact .inr ⟨0,r1,by simp,by simp [EF,hb],by simpa using hr,by simp⟩
  |false=>
   have:r=x::r1:=by simpa using h.symm
   subst this;rcases ZM (i+1) hr with⟨h1,rfl⟩|⟨k,r',h1,h2,h3,rfl⟩
   ·exact .inl ⟨by simp [EF,hb,h1],rfl⟩
   ·exact .inr ⟨k+1,r',by simp;omega,by simp [EF,hb,h2];omega,by simpa using h3,by simp⟩
def fW (ck:List Cn) (k:Tr):Tr:=ck.foldr (fun c k=> .bc [] c k) k
section
variable {Rt:Nat→List AV→AV→Prop} {R:AV→Prop} {L:LK} {js:List JK} {ρ:List AV}
theorem dI: ∀{ck:List Cn} {k:Tr},(∀c∈ck,c.den ρ)→k.den Rt R L js ρ→(fW ck k).den Rt R L js ρ
 | [],_,_,hk=>hk
 |c::ck,k,h,hk=>⟨fun _=>h c (by simp),dI (fun q hq=>h q (by simp [hq])) hk⟩
theorem uL {t k:Tr} {K:List AV→Prop} (hK: ∀vs,K vs→k.den Rt R L js (ρ++vs)) (ht: ∀j:JK,(∀vs,K vs→j vs)→t.den Rt R L (j::js) ρ):(Tr.join t k).den Rt R L js ρ:=ht _ hK
end
def XS (fi cn:Nat) (g:Bool) (X:E) (ck:List Cn) (z:E):Tr:=
 .call [] (.inl fi) (.cons (.var 0) (.cons (.var 1) .nil))<|
 .bc [] (.dfd (.bin .eql (.var 2) (.int .i64 (-1))))<|
 .ite (.bin .eql (.var 2) (.int .i64 (-1))) (
  .ret (.var 0)) (
  .bc [] (.dfd (.bin .add (.var 2) (.int .i64 (1))))<|
  .loop (.cons (.var 2) (.cons (.bin .add (.var 2) (.int .i64 (1))) (.cons (.var 0) .nil))) (
  .bc [] (.dfd (.len (.var 5)))<|
  .bc [] (.dfd (.bin .lss (.var 4) (.len (.var 5))))<|
  .ite (.bin .lss (.var 4) (.len (.var 5))) (
   .join (
   .bc [] (.inb (.var 4) (.var 5) cn)<|
   fW ck<|
   .call [] (.inr (.var 1)) (.cons X .nil)<|
   .bc [] (.dfd (.not (.var 6)))<|
   .ite (.not (.var 6)) (
    .bc [] (.inb (.var 3) (.var 5) cn)<|
    .bc [] (.flat X cn g)<|
    .bc [] (.flat (.fld (.idx (.var 5) (.var 3)) 0 cn g) cn g)<|
    .bc [] (.dfd (.bin .add (.var 3) (.int .i64 (1))))<|
    .jmp 0 (.cons (.bin .add (.var 3) (.int .i64 (1))) (.cons (.set (.var 5) (.var 3) (.put (.idx (.var 5) (.var 3)) 0 X g)) .nil))) (
    .jmp 0 (.cons (.var 3) (.cons (.var 5) .nil)))) (
   .bc [] (.dfd (.bin .add (.var 4) (.int .i64 (1))))<|
   .jmp 0 (.cons (.var 6) (.cons (.bin .add (.var 4) (.int .i64 (1))) (.cons (.var 7) .nil))))) (
   .jmp 1 (.cons (.var 3) (.cons (.var 5) .nil)))) (
  .bc [] (.win (.var 4) (.var 3) (.len (.var 4)))<|
  .bc [] (.win (.var 4) (.var 3) (.len (.var 4)))<|
  .bc [] (.dfd (.bin .sub (.len (.var 4)) (.var 3)))<|
  .bc [] (.win (.app (.win (.var 4) (.int .i64 (0)) (.var 3)) (.rep (.bin .sub (.len (.var 4)) (.var 3)) z)) (.int .i64 (0)) (.var 3))<|
  .ret (.win (.app (.win (.var 4) (.int .i64 (0)) (.var 3)) (.rep (.bin .sub (.len (.var 4)) (.var 3)) z)) (.int .i64 (0)) (.var 3))))
theorem vA {α:Type} {av:α→AV} {l r:List α} {p:α→Option Bool} {fi cn g9:Nat} {g:Bool} {X z:E} {ck:List Cn} {caps:List AV}
  (hs: ∀x,(av x).cells.length=cn∧(∀z∈(av x).cells,z.scalar=true)∧(g=true→ ∃cs,av x= .agg cs)∧(g=false→(av x).scalar=true)) (yX:0<cn)
  (hX: ∀(a b c d:AV) (j:Nat) (ys:List AV) (x:α) (tl:List AV),ys[j]?=some (av x)→X.den ([a,b,c,d, .int .i64 j, .sl ys]++tl)=av x)
  (IN: ∀(a b c d:AV) (j:Nat) (ys:List AV) (x:α),ys[j]?=some (av x)→ ∀q∈ck,q.den [a,b,c,d, .int .i64 j, .sl ys])
  (h:Pr l p=some r) (hi: ∀i,HU l p=some i→Cd Tryz.prog Cb fi [.sl (l.map av), .fn g9 caps] (.int .i64 i))
  (hf: ∀x b,p x=some b→Cd Tryz.prog Cb (1000000+g9) (av x::caps) (.bool b)):Den (XS fi cn g X ck z) (.sl (r.map av)) [.sl (l.map av), .fn g9 caps]:=by
 obtain⟨hn,h⟩:=Gv h;unfold Den XS;have I1: ∀x y:α,(av y).cj 0 (av x) g=av x:=by
  intro x y;cases g with
  |false=>rfl
  |true=>
   obtain⟨cs,A2⟩:=(hs x).2.2.1 rfl;have e1:=(hs x).1;have e2:=(hs y).1;have e3:(av x).cells=cs:=by rw [A2];rfl
   have e4:(av y).cells.drop (0+cs.length)= []:=List.drop_eq_nil_of_le (by rw [e2,←e1,e3];omega);show AV.agg ((av y).cells.take 0++(av x).cells++(av y).cells.drop (0+(av x).cells.length))=av x;rw [e3,e4,List.append_nil,List.take_zero,List.nil_append,A2]
 have Uc: ∀x:α,(av x).fld 0 cn g=av x:=by
  intro x;cases g with
  |false=>have:=o6 ((hs x).2.2.2 rfl);simp [AV.fld,this]
  |true=>obtain⟨cs,A2⟩:=(hs x).2.2.1 rfl;have e1:=(hs x).1;rw [A2]at e1 ⊢;simp only [AV.fld,if_true,AV.cells]at e1 ⊢;rw [List.drop_zero,List.take_of_length_le (by omega)]
 have Bh: ∀(e:E) (ρ:List AV) (x:α),e.den ρ=av x→Cn.den ρ (.flat e cn g):=fun e ρ x he=>by
  show(e.den ρ).cells.length=cn∧(∀y∈(e.den ρ).cells,y.scalar=true)∧(g=true→ ∃cs,e.den ρ= .agg cs)∧(g=false→(e.den ρ).scalar=true)
  rw [he];exact hs x
 rcases ZM 0 h with⟨h1,rfl⟩|⟨k0,r0,Mj,h1,h2,rfl⟩
 ·refine W6 (r:= .int .i64 (-1)) (fun _=>hi _ (by unfold HU;rw [show req (r.length≤9223372036854775806) (EF p r 0)=EF p r 0 from if_pos hn];exact h1)) ?_;exact CI (by simp [BM]) (Fm (t:=true) (by simp [BM]) (fun _=>Jl (by simp)) (by simp))
 ·refine W6 (r:= .int .i64 k0) (fun _=>hi _ (by unfold HU;rw [show req (l.length≤9223372036854775806) (EF p l 0)=EF p l 0 from if_pos hn,h1];simp)) ?_;have hw:IntKind.i64.wrap ((k0:Int)+1)=k0+1:=B0 (by omega) (by omega);refine CI (by simp [BM]) (Fm (t:=false) (by simp [BM];try omega) (by simp) fun _=>CI (by simp [BM]) ?_);refine dA V7 (fun m vs=> ∃(j:Nat) (K zs r':List α),j+m=l.length∧vs= [.int .i64 K.length, .int .i64 j, .sl (zs.map av)]∧K.length<j∧zs.length=l.length∧zs.take K.length=K∧zs.drop j=l.drop j∧Iq p (l.drop j)=some r'∧l.take k0++r0=K++r') (m:=l.length-(k0+1))
   ⟨k0+1,l.take k0,l,r0,by omega, ?_,by simp;omega,rfl,by simp [Nat.min_eq_left (Nat.le_of_lt Mj)],rfl,h2,rfl⟩ ?_
  ·simp [BM,hw,Nat.min_eq_left (Nat.le_of_lt Mj)]
  rintro m vs ⟨j,K,zs,r',hj,rfl,yF,Ra,Vj,Vi,CC,AG⟩;refine CI (by simp) (CI (by simp [BM]) ?_);by_cases Am:j<l.length
  ·refine Fm (t:=true) (by simp [BM,Ra,Am]) (fun _=> ?_) (by simp);obtain⟨b,r2,hb,Da,Yz⟩:=oJ Am CC;have YH:zs[j]?=some l[j]:=by
    have:=congrArg (fun L=>L[0]?) Vi;simpa [Am]using this
   have Fi:(zs.map av)[j]?=some (av l[j]):=by simp [YH]
   have NT:K.length<zs.length:=by omega
   have kR:IntKind.i64.wrap ((j:Int)+1)=j+1:=B0 (by omega) (by omega);have kP:IntKind.i64.wrap ((K.length:Int)+1)=K.length+1:=B0 (by omega) (by omega);refine uL (K:=fun us=> ∃(K' zs':List α),us= [.int .i64 K'.length, .sl (zs'.map av)]∧K'.length<j+1∧zs'.length=l.length∧zs'.take K'.length=K'∧zs'.drop (j+1)=l.drop (j+1)∧l.take k0++r0=K'++r2) ?_ ?_
   ·rintro us ⟨K',zs',rfl,a1,a2,a3,a4,a5⟩;refine CI (by simp [BM]) (PX ⟨m-1,by omega,j+1,K',zs',r2,by omega, ?_,a1,a2,a3,a4,Da,a5⟩);simp [BM,kR]
   ·intro J hJ;refine CI (fun _=>⟨.i64,j,zs.length,by simp,by omega,by simp,by omega, ?_⟩) (dI (IN _ _ _ _ j (zs.map av) _ Fi) (WD (r:= .bool b) (fun _=>⟨g9,caps,by simp, ?_,by simp⟩) ?_))
    ·simp [AV.nth,YH,(hs l[j]).1]
    ·have e1:=hX (.sl (l.map av)) (.fn g9 caps) (.int .i64 k0) (.int .i64 K.length) j (zs.map av) l[j] [] Fi;rw [List.append_nil]at e1;show Cd Tryz.prog Cb (1000000+g9) ([X.den [.sl (l.map av), .fn g9 caps, .int .i64 k0, .int .i64 K.length, .int .i64 j, .sl (zs.map av)]]++caps) (.bool b);rw [e1];exact hf _ _ hb
    ·refine CI (by simp) ?_;have e2:=hX (.sl (l.map av)) (.fn g9 caps) (.int .i64 k0) (.int .i64 K.length) j (zs.map av) l[j] [.bool b] Fi;cases b with
     |true=>refine Fm (t:=false) (by simp) (by simp) fun _=>PX (hJ _ ⟨K,zs,by simp,by omega,Ra,Vj, ?_,by rw [AG,Yz];simp⟩);have:=congrArg (List.drop 1) Vi;simpa [List.drop_drop]using this
     |false=>
      refine Fm (t:=true) (by simp) (fun _=> ?_) (by simp);obtain⟨zk,YI⟩: ∃zk,zs[K.length]?=some zk:=⟨zs[K.length],by simp [NT]⟩
      have e3:(E.idx (.var 5) (.var 3)).den ([AV.sl (l.map av), .fn g9 caps, .int .i64 k0, .int .i64 K.length, .int .i64 j, .sl (zs.map av)]++ [.bool false])=av zk:=by simp [AV.nth,YI]
      refine CI (fun _=>⟨.i64,K.length,zs.length,by simp,by omega,by simp,by omega, ?_⟩) (CI (fun _=>Bh _ _ _ e2) (CI (fun _=>Bh _ _ zk ?_) (CI (by simp [BM]) (PX (hJ _ ⟨K++ [l[j]],zs.set K.length l[j], ?_,by simp;omega,by simpa using Ra, ?_, ?_,by rw [AG,Yz];simp⟩)))))
      ·simp [AV.nth,YI,(hs zk).1]
      ·exact(congrArg (fun y=>AV.fld y 0 cn g) e3).trans (Uc zk)
      ·have e4:(E.set (.var 5) (.var 3) (.put (.idx (.var 5) (.var 3)) 0 X g)).den ([AV.sl (l.map av), .fn g9 caps, .int .i64 k0, .int .i64 K.length, .int .i64 j, .sl (zs.map av)]++ [.bool false])= .sl ((zs.set K.length l[j]).map av):=by
        show AV.cg _ _ (AV.cj ((E.idx (.var 5) (.var 3)).den _) 0 (X.den _) g)=_;rw [e3,e2,I1];simp [AV.cg,List.map_set]
       show EL.den _ (.cons (.bin .add (.var 3) (.int .i64 1)) (.cons (.set (.var 5) (.var 3) (.put (.idx (.var 5) (.var 3)) 0 X g)) .nil))=_;simp only [EL.den];have e5:(E.bin .add (.var 3) (.int .i64 1)).den ([AV.sl (l.map av), .fn g9 caps, .int .i64 k0, .int .i64 K.length, .int .i64 j, .sl (zs.map av)]++ [.bool false])= .int .i64 ((K++ [l[j]]).length:Int):=by simp [BM,kP]
       congr 1;congr 1
      ·rw [AB,Bm,List.take_add_one,List.take_set_of_le (Nat.le_refl _),Vj];simp [NT]
      ·rw [List.drop_set_of_lt (by omega)];have:=congrArg (List.drop 1) Vi;simpa [List.drop_drop]using this
  ·have jD:j=l.length:=by omega
   subst jD;refine Fm (t:=false) (by simp [BM,Ra]) (by simp) fun _=>W7 ?_;have G4:r'= []:=by rw [List.drop_eq_nil_of_le (Nat.le_refl _)]at CC;exact(by simpa [Iq]using CC.symm)
   subst G4;rw [AG,List.append_nil];have Mq:IntKind.i64.wrap ((zs.length:Int)-K.length)=zs.length-K.length:=B0 (by omega) (by omega);have d3:(E.var 3).den ([AV.sl (l.map av),AV.fn g9 caps]++ [AV.int .i64 (k0:Int)]++ [AV.int .i64 (K.length:Int),AV.sl (zs.map av)])= .int .i64 K.length:=by simp
   have d4:(E.var 4).den ([AV.sl (l.map av),AV.fn g9 caps]++ [AV.int .i64 (k0:Int)]++ [AV.int .i64 (K.length:Int),AV.sl (zs.map av)])= .sl (zs.map av):=by simp
   have dm:(E.bin .sub (.len (.var 4)) (.var 3)).den ([AV.sl (l.map av),AV.fn g9 caps]++ [AV.int .i64 (k0:Int)]++ [AV.int .i64 (K.length:Int),AV.sl (zs.map av)])= .int .i64 ((zs.length:Int)-K.length):=by simp [BM,Mq]
   have I7:Cn.den ([AV.sl (l.map av),AV.fn g9 caps]++ [AV.int .i64 (k0:Int)]++ [AV.int .i64 (K.length:Int),AV.sl (zs.map av)]) (.win (.var 4) (.var 3) (.len (.var 4))):=⟨.i64,K.length, .i64,zs.length,zs.length,d3,by simp,by rw [d4];simp,by omega,by omega,by omega⟩
   have dapp:(E.app (.win (.var 4) (.int .i64 (0)) (.var 3)) (.rep (.bin .sub (.len (.var 4)) (.var 3)) z)).den ([AV.sl (l.map av),AV.fn g9 caps]++ [AV.int .i64 (k0:Int)]++ [AV.int .i64 (K.length:Int),AV.sl (zs.map av)])= .sl ((zs.map av).take K.length++List.replicate (zs.length-K.length) (z.den ([AV.sl (l.map av),AV.fn g9 caps]++ [AV.int .i64 (k0:Int)]++ [AV.int .i64 (K.length:Int),AV.sl (zs.map av)]))):=by show AV.app (AV.win ((E.var 4).den _) (.int .i64 0) ((E.var 3).den _)) (AV.rep ((E.bin .sub (.len (.var 4)) (.var 3)).den _) _)=_;rw [d3,d4,dm];simp only [AV.win,AV.rep,AV.app,Int.toNat_natCast,Int.toNat_zero,List.drop_zero];congr 3;omega
   refine CI (fun _=>I7) (CI (fun _=>I7) (CI (fun _=>fun hu=>by have:=dm.symm.trans hu;simp at this) (CI (fun _=>⟨.i64,0, .i64,K.length,zs.length,rfl,d3, ?_,by omega,by omega,by omega⟩) (Jl ?_))))
   ·refine(congrArg AV.len dapp).trans ?_;simp only [AV.len,AB,List.length_take,List.length_map,List.length_replicate];congr 1;omega
   ·refine(congrArg (fun y=>AV.win y (.int .i64 0) (.int .i64 K.length)) dapp).trans ?_;simp only [AV.win,Int.toNat_natCast,Int.toNat_zero,List.drop_zero];rw [List.take_append_of_le_length (by simp;omega),List.take_take,Nat.min_self,←List.map_take,Vj]
abbrev gU:Nat→List AV→AV→Prop:=Cd Tryz.prog Cb
@[reducible] def NC:Nat→Type
 |0=>Aa
 |1=>AE
 |2=>Ap
 |3=>A9
 |4=>Dr
 |5=>BE
 |6=>En
 |7=>EA
 |8=>gB
 |_+9=>Unit
@[reducible] def Tn:Nat→List Ty
 |0=> [.s, .s, .b]
 |1=> [.l (.i .u8), .i .i64, .i .u64]
 |2=> [.i .i64, .s, .s, .i .i64]
 |3=> [.s, .s, .b]
 |4=> [.s, .i .i64, .i .i64]
 |5=> [.s, .l .s, .l (.st 4)]
 |6=> [.l .s]
 |7=> [.i .i64, .l .s, .l .s]
 |8=> [.i .i64, .i .i64, .l .s, .l .s, .s, .s, .s]
 |_+9=> []
def O6: ∀n,NC n→AV
 |0,x=>vN x
 |1,x=>wU x
 |2,x=>yA x
 |3,x=>xR x
 |4,x=>gM x
 |5,x=>wT x
 |6,x=>xL x
 |7,x=>uD x
 |8,x=>wP x
 |_+9,_=> .agg []
def X3: ∀n,NC n→HL NC (Tn n)
 |0,x=>(x.ab,x.al,x.ar,())
 |1,x=>(x.ao,x.cf,x.aq,())
 |2,x=>(x.ae,x.ab,x.al,x.cd,())
 |3,x=>(x.ab,x.al,x.c7,())
 |4,x=>(x.ax,x.dh,x.c8,())
 |5,x=>(x.ax,x.ct,x.bu,())
 |6,x=>(x.bp,())
 |7,x=>(x.ae,x.db.bp,x.dd.bp,())
 |8,x=>(x.ae,x.ik.ae,x.ik.db.bp,x.ik.dd.bp,x.ln,x.l0,x.ku,())
 |_+9,_=>()
def YL: ∀n,HL NC (Tn n)→NC n
 |0,x=>⟨x.1,x.2.1,x.2.2.1⟩
 |1,x=>⟨x.1,x.2.1,x.2.2.1⟩
 |2,x=>⟨x.1,x.2.1,x.2.2.1,x.2.2.2.1⟩
 |3,x=>⟨x.1,x.2.1,x.2.2.1⟩
 |4,x=>⟨x.1,x.2.1,x.2.2.1⟩
 |5,x=>⟨x.1,x.2.1,x.2.2.1⟩
 |6,x=>⟨x.1⟩
 |7,x=>⟨x.1,⟨x.2.1⟩,⟨x.2.2.1⟩⟩
 |8,x=>⟨x.1,⟨x.2.1,⟨x.2.2.1⟩,⟨x.2.2.2.1⟩⟩,x.2.2.2.2.1,x.2.2.2.2.2.1,x.2.2.2.2.2.2.1⟩
 |_+9,_=>()
theorem wH: ∀n x,O6 n x= .agg (Gu O6 (Tn n) (X3 n x))
 |0,_=>rfl
 |1,_=>rfl
 |2,_=>rfl
 |3,_=>rfl
 |4,_=>rfl
 |5,_=>rfl
 |6,_=>rfl
 |7,_=>rfl
 |8,_=>rfl
 |_+9,_=>rfl
theorem vG: ∀n h,X3 n (YL n h)=h
 |0,_=>rfl
 |1,_=>rfl
 |2,_=>rfl
 |3,_=>rfl
 |4,_=>rfl
 |5,_=>rfl
 |6,_=>rfl
 |7,_=>rfl
 |8,_=>rfl
 |_+9,_=>rfl
@[reducible] def tab:GX:=⟨gU,NC,O6,Tn,X3,YL,wH,vG⟩
abbrev FS:=FN tab
def Vo (tb:List FS) (hs:List JM) (o:Option Tr) (ps:List PT) (r:RT) (xs:HP tab.car ps) (hp:Gw tab ps xs):Option (Fx tab.car r):=match o with
 |some t=>BQ tb 100000 (Mv r) t hs (Rj ps xs hp) [] []
 |none=>none
theorem fS {f:Nat} {ps:List PT} {r:RT} {φ:HP tab.car ps→Option (Fx tab.car r)} (tb:List FS) (hs:List JM) (h: ∀xs hp,Vo tb hs (QF Tryz.prog Cb f) ps r xs hp=φ xs) (hk: ∀xs y,Tp Tryz.prog Cb f (EC tab ps xs) (EK tab r y)=true) (xs:HP tab.car ps) (y:Fx tab.car r) (hp:Gw tab ps xs) (e:φ xs=some y):tab.Rt f (EC tab ps xs) (EK tab r y):=by
 rw [←h xs hp]at e;unfold Vo at e;split at e
 ·rename_i t ht;refine Jo ht (hk xs y) ?_;unfold Den;rw [←dR ps xs hp];exact DN tb 100000 (fa:= []) (fun _ h=>nomatch h) (fun _ h=>nomatch h) (fun v hv=>Xs r hv) .nil e
 ·cases e
def AP (f:Nat) (ps:List PT) (r:RT) (φ:HP tab.car ps→Option (Fx tab.car r)) (tb:List FS) (hs:List JM) (h: ∀xs hp,Vo tb hs (QF Tryz.prog Cb f) ps r xs hp=φ xs:=by intro _ _;kernel_rfl) (hk: ∀xs y,Tp Tryz.prog Cb f (EC tab ps xs) (EK tab r y)=true:=by intro _ _;kernel_rfl):FS:=
 ⟨f,ps,r,φ,fun xs y hp e=>fS tb hs h hk xs y hp e,false,fun h=>by cases h⟩
def Ms (d:FS) (h: ∀y,Xv d.f (EK tab d.r y)=true):FS:=
 ⟨d.f,d.ps,d.r,d.φ,d.ok,true,fun _ xs y hx e=>sG (d.ok xs y hx e) (h y)⟩
def Ge (f:Nat) (ps:List PT) (r:RT) (φ:HP tab.car ps→Option (Fx tab.car r)) (ok: ∀xs y,Gw tab ps xs→φ xs=some y→tab.Rt f (EC tab ps xs) (EK tab r y)):FS:=⟨f,ps,r,φ,ok,false,fun h=>by cases h⟩
end Go.Proofs.YtollgpkegmbpmaaGreatDoor
end
noncomputable section
namespace Go.Proofs.YtollgpkegmbpmaaGreatDoor
open Go.RowKit
theorem CQ.rd {P:Program} {w:World} {ts:List TypeId} {ms:List PM} {lo:List Bool} {vs:List Value} {xs:List AV} {rf lf hs:List Nat} (h:CQ P w ts ms lo vs xs rf lf hs):lo= []→(∀m∈ms,m= .ro)→Rd w vs xs rf∧hs= []:=by
 induction h with
 |nil=>intro _ _;exact⟨.nil,rfl⟩
 |lent h1 _ _ _ _=>intro BD;subst BD;cases h1
 | @cons t ts ms lo v vs x xs f h rf lf hs AN _ ih=>
  intro BD DG;subst BD;obtain⟨h1,rfl⟩:=ih rfl fun m hm=>DG m (List.mem_of_mem_tail hm);have G5:ms.headD .ro= .ro:=by
   cases ms with
   |nil=>rfl
   |cons m ms=>exact DG m (by simp)
  rw [G5]at AN;obtain⟨h2,h3⟩:Rd w [v] [x] f∧h= []:=AN;subst h3;exact⟨by simpa using h2.app h1,rfl⟩
 |free h1 _ ih=>intro BD DG;subst BD;obtain⟨h2,rfl⟩:=ih rfl fun m hm=>DG m (List.mem_of_mem_tail hm);exact⟨by simpa using h1.app h2,rfl⟩
theorem C5.ia {P:Program} {w:World}: ∀{ts:List TypeId} {ms:List PM} {vs:List Value},vs.length=ts.length→(∀m∈ms,m= .ro)→C5 P w ts ms vs [] [] []
 | [],_,vs,_,_=> .nil
 |t::ts,ms, [],h,_=>by simp at h
 |t::ts,ms,v::vs,h,DG=>by
  refine .ro ?_ (C5.ia (by simpa using h) fun m hm=>DG m (List.mem_of_mem_tail hm));cases ms with
  |nil=>rfl
  |cons m ms=>exact DG m (by simp)
def XX (P:Program) (sg:Bo) (f np:Nat) (r:AV):Bool:=
 match P.funcs[f]?,sg f with
 |some fn,some s=>fn.body.isSome&& !(fn.name== "runtime.NumGoroutine")&&Kk P fn s r&&s.bj.all (fun m=>match m with| .ro=>true|_=>false)&&fn.params.size==np&&fn.nfree==0&&(s.ft.isEmpty&&s.lo.isEmpty)&&(match fn.resultTypes.toList with| [t]=> !Ft P t s.res|_=>false)
 |_,_=>false
theorem cO {f:Nat} {xs:List AV} {r:AV} (hk:XX Tryz.prog Cb f xs.length r=true) (hc: ∀(w:World) (vs:List Value) (rf:List Nat),Ey.K w→Rd w vs xs rf→Calls Tryz.prog f vs.toArray w fun e w'=>Mod [] w w'∧ ∃v f1,e= .returned v∧Rd w' [v] [r] f1∧ ∀b∈f1,b∈rf∨w.heap.size≤b):Cd Tryz.prog Cb f xs r:=by
 unfold XX at hk;split at hk
 ·rename_i fn s hf hs;simp only [Ad,Bool.not_eq_true',beq_iff_eq,AJ]at hk;obtain⟨⟨⟨⟨⟨⟨⟨h1,h2⟩,h3⟩,h4⟩,h5⟩,h6⟩,Dt⟩,h7⟩:=hk;obtain⟨Dt,BD⟩:s.ft= []∧s.lo= []:=by simpa using Dt
  have G5: ∀m∈s.bj,m= .ro:=fun m hm=>by
   have:=h4 m hm;split at this
   ·rfl
   ·cases this
  unfold Cd;rw [if_pos (No f s hs)];refine⟨s,hs,fn,hf,h1,h2,h3,by omega,by simp [Dt],fun w vs rf lf AT Ao hd _ BF Dl=> ?_⟩;obtain⟨hr,rfl⟩:=Ao.rd BD G5;refine(hc w vs rf Dl.2.1 hr).mono ?_;rintro e w' ⟨hm,v,f1,rfl,hv,hb⟩;refine⟨v,rfl,⟨⟨r, [],f1, [], [], [],rfl, ?_,C5.ia ?_ G5,by simp,by simp,fun b Bx=>⟨by simp, ?_⟩⟩,hm⟩⟩
  ·unfold IB;split at h7
   ·rename_i t ht;rw [ht];show DO Tryz.prog w' t s.res v r f1 [];unfold DO;rw [if_neg (by rw [Bool.not_eq_true];simpa using h7)];exact⟨hv,rfl⟩
   ·cases h7
  ·rw [hr.len];simp [Dt];omega
  ·rcases hb b (by simpa using Bx)with h|h
   ·exact .inl h
   ·exact .inr (.inr h)
 ·cases hk
theorem vT {f:Nat} {xs:List AV} {r:AV} (hk:XX Tryz.prog Cb f xs.length r=true) (hc: ∀(w:World) (vs:List Value) (rf:List Nat),Rd w vs xs rf→Calls Tryz.prog f vs.toArray w fun e w'=>Mod [] w w'∧ ∃v f1,e= .returned v∧Rd w' [v] [r] f1∧ ∀b∈f1,b∈rf∨w.heap.size≤b):Cd Tryz.prog Cb f xs r:=
 cO hk fun w vs rf _ hr=>hc w vs rf hr
theorem fL {w:World} {s:Ah} {vs:List Value} {xs:List AV} {f:List Nat} (h:Rd w vs (.str s::xs) f): ∃(b:ByteArray) (us:List Value),vs= .string b::us∧b.data.toList=s∧b.size≤9223372036854775807∧Rd w us xs f:=by
 cases h with
 |str a h=>exact⟨_,_,rfl,rfl,a,h⟩
theorem Qf {w:World} {k:IntKind} {n:Int} {vs:List Value} {xs:List AV} {f:List Nat} (h:Rd w vs (.int k n::xs) f): ∃us:List Value,vs= .int k n::us∧DP k n∧Rd w us xs f:=by
 cases h with
 |int a h=>exact⟨_,rfl,a,h⟩
theorem S4 {w:World} {vs:List Value} {f:List Nat} (h:Rd w vs [] f):vs= []∧f= []:=by cases h;exact⟨rfl,rfl⟩
end Go.Proofs.YtollgpkegmbpmaaGreatDoor
end
noncomputable section
namespace Go.Proofs
open Go.Shelf
def Tryz.jv:Go.Shelf.Ren:=⟨fun|137=>253|217=>288|266=>312|n=>n,fun|9=>9|5=>5|3=>3|n=>n,fun|n=>n⟩
def Tryz.jy:Go.Shelf.Ren:=⟨fun|172=>271|244=>301|245=>302|247=>321|279=>322|280=>323|281=>324|282=>325|287=>332|316=>333|171=>183|205=>334|321=>337|322=>338|243=>232|246=>272|283=>303|284=>304|285=>305|286=>306|129=>243|317=>326|318=>327|319=>328|320=>329|337=>335|338=>336|n=>n,fun|9=>9|3=>3|75=>257|76=>258|4=>4|5=>5|167=>297|37=>22|0=>0|85=>298|2=>2|168=>300|53=>107|175=>313|46=>198|210=>316|127=>279|145=>321|143=>319|21=>21|171=>284|173=>286|212=>304|51=>241|20=>20|213=>305|232=>322|233=>323|80=>134|n=>n,fun|15=>4|16=>5|17=>1|18=>6|19=>7|n=>n⟩
def Tryz.jf:Go.Shelf.Ren:=⟨fun|246=>272|283=>303|284=>304|285=>305|286=>306|129=>243|317=>326|318=>327|319=>328|320=>329|337=>335|338=>336|n=>n,fun|2=>2|3=>3|9=>9|4=>4|171=>284|0=>0|53=>107|37=>22|5=>5|173=>286|212=>304|51=>241|20=>20|213=>305|46=>198|232=>322|233=>323|n=>n,fun|17=>1|18=>6|19=>7|n=>n⟩
def Tryz.jq:Go.Shelf.Ren:=⟨fun|243=>232|246=>272|283=>303|284=>304|285=>305|286=>306|129=>243|317=>326|318=>327|319=>328|320=>329|337=>335|338=>336|n=>n,fun|3=>3|9=>9|2=>2|4=>4|171=>284|0=>0|53=>107|37=>22|5=>5|173=>286|212=>304|51=>241|20=>20|213=>305|46=>198|232=>322|233=>323|n=>n,fun|17=>1|18=>6|19=>7|n=>n⟩
def Tryz.er:Go.Shelf.Ren:=⟨fun|171=>183|243=>232|246=>272|283=>303|284=>304|285=>305|286=>306|129=>243|317=>326|318=>327|319=>328|320=>329|337=>335|338=>336|n=>n,fun|3=>3|9=>9|2=>2|4=>4|171=>284|0=>0|53=>107|37=>22|5=>5|173=>286|212=>304|51=>241|20=>20|213=>305|46=>198|232=>322|233=>323|n=>n,fun|17=>1|18=>6|19=>7|n=>n⟩
theorem Tryz.gx:Go.Proofs.LaysM.n171 Tryz.prog Tryz.er:={
 mixed:=by kernel_rfl
 f129:=Tryz.func243.trans (congrArg some (by kernel_rfl))
 f171:=Tryz.func183.trans (congrArg some (by kernel_rfl))
 f243:=Tryz.func232.trans (congrArg some (by kernel_rfl))
 f246:=Tryz.func272.trans (congrArg some (by kernel_rfl))
 f283:=Tryz.func303.trans (congrArg some (by kernel_rfl))
 f284:=Tryz.func304.trans (congrArg some (by kernel_rfl))
 f285:=Tryz.func305.trans (congrArg some (by kernel_rfl))
 f286:=Tryz.func306.trans (congrArg some (by kernel_rfl))
 f317:=Tryz.func326.trans (congrArg some (by kernel_rfl))
 f318:=Tryz.func327.trans (congrArg some (by kernel_rfl))
 f319:=Tryz.func328.trans (congrArg some (by kernel_rfl))
 f320:=Tryz.func329.trans (congrArg some (by kernel_rfl))
 f337:=Tryz.func335.trans (congrArg some (by kernel_rfl))
 f338:=Tryz.func336.trans (congrArg some (by kernel_rfl))
 t0:=Tryz.underlying0
 a0:=Tryz.isAgg0
 z0:=Tryz.sizeOf0
 v0:=Tryz.zeroValue0
 t2:=Tryz.underlying2
 a2:=Tryz.isAgg2
 z2:=Tryz.sizeOf2
 v2:=Tryz.zeroValue2
 t3:=Tryz.underlying3
 a3:=Tryz.isAgg3
 z3:=Tryz.sizeOf3
 v3:=Tryz.zeroValue3
 t4:=Tryz.underlying4
 a4:=Tryz.isAgg4
 z4:=Tryz.sizeOf4
 v4:=Tryz.zeroValue4
 t5:=Tryz.underlying5
 a5:=Tryz.isAgg5
 z5:=Tryz.sizeOf5
 v5:=Tryz.zeroValue5
 t9:=Tryz.underlying9
 a9:=Tryz.isAgg9
 z9:=Tryz.sizeOf9
 v9:=Tryz.zeroValue9
 t20:=Tryz.underlying20
 a20:=Tryz.isAgg20
 z20:=Tryz.sizeOf20
 v20:=Tryz.zeroValue20
 t37:=Tryz.underlying22
 a37:=Tryz.isAgg22
 z37:=Tryz.sizeOf22
 v37:=Tryz.zeroValue22
 t46:=Tryz.underlying198
 a46:=Tryz.isAgg198
 z46:=Tryz.sizeOf198
 v46:=Tryz.zeroValue198
 t51:=Tryz.underlying241
 a51:=Tryz.isAgg241
 z51:=Tryz.sizeOf241
 v51:=Tryz.zeroValue241
 t53:=Tryz.underlying107
 a53:=Tryz.isAgg107
 z53:=Tryz.sizeOf107
 v53:=Tryz.zeroValue107
 t171:=Tryz.underlying284
 a171:=Tryz.isAgg284
 z171:=Tryz.sizeOf284
 v171:=Tryz.zeroValue284
 t173:=Tryz.underlying286
 a173:=Tryz.isAgg286
 z173:=Tryz.sizeOf286
 v173:=Tryz.zeroValue286
 t212:=Tryz.underlying304
 a212:=Tryz.isAgg304
 z212:=Tryz.sizeOf304
 v212:=Tryz.zeroValue304
 t213:=Tryz.underlying305
 a213:=Tryz.isAgg305
 z213:=Tryz.sizeOf305
 t232:=Tryz.underlying322
 a232:=Tryz.isAgg322
 z232:=Tryz.sizeOf322
 v232:=Tryz.zeroValue322
 t233:=Tryz.underlying323
 a233:=Tryz.isAgg323
 z233:=Tryz.sizeOf323
 v233:=Tryz.zeroValue323
 g17:=by kernel_rfl
 g18:=by kernel_rfl
 g19:=by kernel_rfl
 i0:=by kernel_rfl
 i2:=by kernel_rfl
 i3:=by kernel_rfl
 i4:=by kernel_rfl
 i5:=by kernel_rfl
 i9:=by kernel_rfl
 i20:=by kernel_rfl
 i37:=by kernel_rfl
 i46:=by kernel_rfl
 i51:=by kernel_rfl
 i53:=by kernel_rfl
 i171:=by kernel_rfl
 i173:=by kernel_rfl
 i212:=by kernel_rfl
 i232:=by kernel_rfl
 i233:=by kernel_rfl
 m17:=by kernel_rfl
 m18:=by kernel_rfl
 m19:=by kernel_rfl}
open Go.RowKit Go.Sort Go.Lib in
theorem Tryz.strconv_Itoa (n:Int) (h0: -9223372036854775808≤n) (h1:n≤9223372036854775807) (w:World) (U9:Lib.TabIs Tryz.prog w "internal/strconv.uint64pow10" .u64 Lib.pow10Tab):
  Calls Tryz.prog 183 #[.int .i64 n] w fun e w'=>e= .returned (.string ⟨(Lib.itoa n).toArray⟩)∧ ∃k os,w'=grow (w.drewN k) os:=Any.strconv_Itoa Tryz.gx n h0 h1 w U9
def Tryz.ey:Go.Shelf.Ren:=⟨fun|172=>271|244=>301|245=>302|247=>321|279=>322|280=>323|281=>324|282=>325|287=>332|316=>333|171=>183|205=>334|321=>337|322=>338|243=>232|246=>272|283=>303|284=>304|285=>305|286=>306|129=>243|317=>326|318=>327|319=>328|320=>329|337=>335|338=>336|n=>n,fun|9=>9|3=>3|75=>257|76=>258|4=>4|5=>5|167=>297|37=>22|0=>0|85=>298|2=>2|168=>300|53=>107|175=>313|46=>198|210=>316|127=>279|145=>321|143=>319|21=>21|171=>284|173=>286|212=>304|51=>241|20=>20|213=>305|232=>322|233=>323|80=>134|n=>n,fun|15=>4|16=>5|17=>1|18=>6|19=>7|n=>n⟩
theorem Tryz.ee:Go.Proofs.LaysC.n172 Tryz.prog Tryz.ey:={
 mixed:=by kernel_rfl
 f129:=Tryz.func243.trans (congrArg some (by kernel_rfl))
 f171:=Tryz.func183.trans (congrArg some (by kernel_rfl))
 f172:=Tryz.func271.trans (congrArg some (by kernel_rfl))
 f205:=Tryz.func334.trans (congrArg some (by kernel_rfl))
 f243:=Tryz.func232.trans (congrArg some (by kernel_rfl))
 f244:=Tryz.func301.trans (congrArg some (by kernel_rfl))
 f245:=Tryz.func302.trans (congrArg some (by kernel_rfl))
 f246:=Tryz.func272.trans (congrArg some (by kernel_rfl))
 f247:=Tryz.func321.trans (congrArg some (by kernel_rfl))
 f279:=Tryz.func322.trans (congrArg some (by kernel_rfl))
 f280:=Tryz.func323.trans (congrArg some (by kernel_rfl))
 f281:=Tryz.func324.trans (congrArg some (by kernel_rfl))
 f282:=Tryz.func325.trans (congrArg some (by kernel_rfl))
 f283:=Tryz.func303.trans (congrArg some (by kernel_rfl))
 f284:=Tryz.func304.trans (congrArg some (by kernel_rfl))
 f285:=Tryz.func305.trans (congrArg some (by kernel_rfl))
 f286:=Tryz.func306.trans (congrArg some (by kernel_rfl))
 f287:=Tryz.func332.trans (congrArg some (by kernel_rfl))
 f316:=Tryz.func333.trans (congrArg some (by kernel_rfl))
 f317:=Tryz.func326.trans (congrArg some (by kernel_rfl))
 f318:=Tryz.func327.trans (congrArg some (by kernel_rfl))
 f319:=Tryz.func328.trans (congrArg some (by kernel_rfl))
 f320:=Tryz.func329.trans (congrArg some (by kernel_rfl))
 f321:=Tryz.func337.trans (congrArg some (by kernel_rfl))
 f322:=Tryz.func338.trans (congrArg some (by kernel_rfl))
 f337:=Tryz.func335.trans (congrArg some (by kernel_rfl))
 f338:=Tryz.func336.trans (congrArg some (by kernel_rfl))
 t0:=Tryz.underlying0
 a0:=Tryz.isAgg0
 z0:=Tryz.sizeOf0
 v0:=Tryz.zeroValue0
 t2:=Tryz.underlying2
 a2:=Tryz.isAgg2
 z2:=Tryz.sizeOf2
 v2:=Tryz.zeroValue2
 t3:=Tryz.underlying3
 a3:=Tryz.isAgg3
 z3:=Tryz.sizeOf3
 v3:=Tryz.zeroValue3
 t4:=Tryz.underlying4
 a4:=Tryz.isAgg4
 z4:=Tryz.sizeOf4
 v4:=Tryz.zeroValue4
 t5:=Tryz.underlying5
 a5:=Tryz.isAgg5
 z5:=Tryz.sizeOf5
 v5:=Tryz.zeroValue5
 t9:=Tryz.underlying9
 a9:=Tryz.isAgg9
 z9:=Tryz.sizeOf9
 v9:=Tryz.zeroValue9
 t20:=Tryz.underlying20
 a20:=Tryz.isAgg20
 z20:=Tryz.sizeOf20
 v20:=Tryz.zeroValue20
 t21:=Tryz.underlying21
 a21:=Tryz.isAgg21
 z21:=Tryz.sizeOf21
 v21:=Tryz.zeroValue21
 t37:=Tryz.underlying22
 a37:=Tryz.isAgg22
 z37:=Tryz.sizeOf22
 v37:=Tryz.zeroValue22
 t46:=Tryz.underlying198
 a46:=Tryz.isAgg198
 z46:=Tryz.sizeOf198
 v46:=Tryz.zeroValue198
 t51:=Tryz.underlying241
 a51:=Tryz.isAgg241
 z51:=Tryz.sizeOf241
 v51:=Tryz.zeroValue241
 t53:=Tryz.underlying107
 a53:=Tryz.isAgg107
 z53:=Tryz.sizeOf107
 v53:=Tryz.zeroValue107
 t75:=Tryz.underlying257
 a75:=Tryz.isAgg257
 z75:=Tryz.sizeOf257
 v75:=Tryz.zeroValue257
 t76:=Tryz.underlying258
 a76:=Tryz.isAgg258
 z76:=Tryz.sizeOf258
 v76:=Tryz.zeroValue258
 t85:=Tryz.underlying298
 a85:=Tryz.isAgg298
 z85:=Tryz.sizeOf298
 v85:=Tryz.zeroValue298
 t127:=Tryz.underlying279
 a127:=Tryz.isAgg279
 z127:=Tryz.sizeOf279
 v127:=Tryz.zeroValue279
 t143:=Tryz.underlying319
 a143:=Tryz.isAgg319
 z143:=Tryz.sizeOf319
 v143:=Tryz.zeroValue319
 t145:=Tryz.underlying321
 a145:=Tryz.isAgg321
 z145:=Tryz.sizeOf321
 v145:=Tryz.zeroValue321
 t167:=Tryz.underlying297
 a167:=Tryz.isAgg297
 z167:=Tryz.sizeOf297
 v167:=Tryz.zeroValue297
 t168:=Tryz.underlying300
 a168:=Tryz.isAgg300
 z168:=Tryz.sizeOf300
 v168:=Tryz.zeroValue300
 t171:=Tryz.underlying284
 a171:=Tryz.isAgg284
 z171:=Tryz.sizeOf284
 v171:=Tryz.zeroValue284
 t173:=Tryz.underlying286
 a173:=Tryz.isAgg286
 z173:=Tryz.sizeOf286
 v173:=Tryz.zeroValue286
 t175:=Tryz.underlying313
 a175:=Tryz.isAgg313
 z175:=Tryz.sizeOf313
 v175:=Tryz.zeroValue313
 t210:=Tryz.underlying316
 a210:=Tryz.isAgg316
 z210:=Tryz.sizeOf316
 v210:=Tryz.zeroValue316
 t212:=Tryz.underlying304
 a212:=Tryz.isAgg304
 z212:=Tryz.sizeOf304
 v212:=Tryz.zeroValue304
 t213:=Tryz.underlying305
 a213:=Tryz.isAgg305
 z213:=Tryz.sizeOf305
 t232:=Tryz.underlying322
 a232:=Tryz.isAgg322
 z232:=Tryz.sizeOf322
 v232:=Tryz.zeroValue322
 t233:=Tryz.underlying323
 a233:=Tryz.isAgg323
 z233:=Tryz.sizeOf323
 v233:=Tryz.zeroValue323
 g15:=by kernel_rfl
 g16:=by kernel_rfl
 g17:=by kernel_rfl
 g18:=by kernel_rfl
 g19:=by kernel_rfl
 t80:=Tryz.underlying134
 a80:=Tryz.isAgg134
 z80:=Tryz.sizeOf134
 v80:=Tryz.zeroValue134
 i0:=by kernel_rfl
 i2:=by kernel_rfl
 i3:=by kernel_rfl
 i4:=by kernel_rfl
 i5:=by kernel_rfl
 i9:=by kernel_rfl
 i20:=by kernel_rfl
 i21:=by kernel_rfl
 i37:=by kernel_rfl
 i46:=by kernel_rfl
 i51:=by kernel_rfl
 i53:=by kernel_rfl
 i75:=by kernel_rfl
 i76:=by kernel_rfl
 i80:=by kernel_rfl
 i85:=by kernel_rfl
 i127:=by kernel_rfl
 i143:=by kernel_rfl
 i145:=by kernel_rfl
 i167:=by kernel_rfl
 i168:=by kernel_rfl
 i171:=by kernel_rfl
 i173:=by kernel_rfl
 i175:=by kernel_rfl
 i210:=by kernel_rfl
 i212:=by kernel_rfl
 i232:=by kernel_rfl
 i233:=by kernel_rfl
 m15:=by kernel_rfl
 m16:=by kernel_rfl
 m17:=by kernel_rfl
 m18:=by kernel_rfl
 m19:=by kernel_rfl
 c0:=by kernel_rfl
 c2:=by kernel_rfl
 c3:=by kernel_rfl
 c4:=by kernel_rfl
 c5:=by kernel_rfl
 c9:=by kernel_rfl
 c20:=by kernel_rfl
 c21:=by kernel_rfl
 c37:=by kernel_rfl
 c46:=by kernel_rfl
 c51:=by kernel_rfl
 c53:=by kernel_rfl
 c75:=by kernel_rfl
 c76:=by kernel_rfl
 c80:=by kernel_rfl
 c85:=by kernel_rfl
 c127:=by kernel_rfl
 c143:=by kernel_rfl
 c145:=by kernel_rfl
 c167:=by kernel_rfl
 c168:=by kernel_rfl
 c171:=by kernel_rfl
 c173:=by kernel_rfl
 c175:=by kernel_rfl
 c210:=by kernel_rfl
 c212:=by kernel_rfl
 c213:=by kernel_rfl
 c232:=by kernel_rfl
 c233:=by kernel_rfl}
open Go.RowKit in
theorem Tryz.strconv_Atoi_ok (s:ByteArray) (Dk:s.size≤9223372036854775806) (v:Int) (h:Lib.atoiAll s.data.toList= .ok v) (w:World):
  Calls Tryz.prog 271 #[.string s] w fun e w'=>e= .returned (.tuple #[.int .i64 v, .nilIface])∧(w'=w∨ ∃t,w'=Lib.bytesWorld w 5 t):=Any.strconv_Atoi_ok Tryz.ee s Dk v h w
def Tryz.ff:Go.Shelf.Ren:=⟨fun|217=>288|266=>312|n=>n,fun|9=>9|5=>5|3=>3|n=>n,fun|n=>n⟩
theorem Tryz.jh:Go.Proofs.Lays.n217 Tryz.prog Tryz.ff:={
 mixed:=by kernel_rfl
 f217:=Tryz.func288.trans (congrArg some (by kernel_rfl))
 f266:=Tryz.func312.trans (congrArg some (by kernel_rfl))
 t3:=Tryz.underlying3
 a3:=Tryz.isAgg3
 z3:=Tryz.sizeOf3
 v3:=Tryz.zeroValue3
 t5:=Tryz.underlying5
 a5:=Tryz.isAgg5
 z5:=Tryz.sizeOf5
 v5:=Tryz.zeroValue5
 t9:=Tryz.underlying9
 a9:=Tryz.isAgg9
 z9:=Tryz.sizeOf9
 v9:=Tryz.zeroValue9}
open Go.RowKit Go.Lib in
theorem Tryz.stringslite_IndexByte (s:ByteArray) (c:Int) (w:World):
  Calls Tryz.prog 288 #[.string s, .int .u8 c] w fun e w'=>e= .returned (.int .i64 (Lib.indexByte s.data.toList c.toNat.toUInt8))∧w'=w:=Any.stringslite_IndexByte Tryz.jh s c w
end Go.Proofs
end
noncomputable section
namespace Go.Proofs.YtollgpkegmbpmaaGreatDoor
open Go.RowKit
set_option maxRecDepth 100000
theorem Zt: ∀(l:Ah) (c:UInt8), -1≤Lib.indexByte l c∧Lib.indexByte l c<l.length∨Lib.indexByte l c= -1
 | [],_=> .inr rfl
 |b::l,c=>by
  unfold Lib.indexByte;rcases Zt l c with h|h
  ·split
   ·left;simp
   ·split
    ·exact .inr rfl
    ·left;rw [AD];omega
  ·rw [h];split
   ·left;simp
   ·right;rfl
theorem uY {n:Int} (h1: -9223372036854775808≤n) (h2:n≤9223372036854775807):DP .i64 n:=B0 h1 h2
def Rk (s:Ah) (c:Int):Option Int:=some (Lib.indexByte s c.toNat.toUInt8)
theorem lK (a0:Ah) (a1 r:Int) (h:Rk a0 a1=some r):Cd Tryz.prog Cb 288 [.str a0, .int .u8 a1] (.int .i64 r):=vT (by kernel_rfl) fun w vs rf hr=>by
 obtain⟨b,us,rfl,rfl,hb,hr⟩:=fL hr;obtain⟨us1,rfl,_,hr⟩:=Qf hr;obtain⟨rfl,rfl⟩:=S4 hr;refine(Tryz.stringslite_IndexByte b a1 w).mono ?_;rintro e w' ⟨rfl,rfl⟩;cases h;have hl:b.data.toList.length≤9223372036854775807:=by rw [Array.length_toList];exact hb
 exact⟨Mod.refl [] _,_, [],rfl, .int (by rcases Zt b.data.toList a1.toNat.toUInt8 with h|h<;>exact uY (by omega) (by omega)) .nil,by simp⟩
theorem R9 {P:Program} (w:World) (dT sT ty elem:TypeId) (k:Nat) (g o dLen dCap:Nat) (a:Addr) (sLen sCap:Nat) (cur:Array Value) (t:TypeId) (cs:List Value)
  (hu:P.underlying dT=some (.slice elem)) (hs:(P.info? elem).map (·.size)=some k)
  (hg:w.heap[g]?=some (.cells cur t (0,0))) (hn:cs.length=Nat.min sLen dLen*k)
  (Eu: ∀j v,cs[j]?=some v→w.cell? (a.add j)=some v) (KN:o+cs.length≤cur.size) (h1: ∀v∈cs,v.oneCell'=true):
  (Builtin.copy_ #[dT,sT] ty #[.slice (some ⟨g,o,none⟩) dLen dCap, .slice (some a) sLen sCap]).run P w=
   .ok (goInt (Nat.min sLen dLen)) (w.setRow g (cur.toList.take o++cs++cur.toList.drop (o+cs.length)).toArray):=by
 have hl:=run_loadCells_list (P:=P) w a cs Eu;have Ev:=run_storeCells_at P g o t cs 0 cur w hg (by simpa using KN) h1;cases hq:P.info? elem with
 |none=>simp [hq]at hs
 |some i=>
  have hi:i.size=k:=by simpa [hq]using hs
  rw [hn]at hl;simp [Builtin.copy_,run_underlying hu,Builtin.lenOf,Builtin.firstCells,sizeOf,typeInfo,hq,hi,hl,Ev]
theorem VM {P:Program} (w:World) {ops:Array Oper} {rest:List Oper} {o:Oper} {a:Act} {Q:Exit→Act→World→Prop} (Mh:o.guard=none) (d s:Operand) (t t':TypeId)
  (ho:o.op= .call {callee:= .builtin .copy,args:= #[d,s],argTypes:= #[t,t']}) (v u:Value) (hd:a.eval d=v) (hs:a.eval s=u) {v':Value} {w':World}
  (hr:(Builtin.copy_ #[t,t'] o.type #[v,u]).run P w= .ok v' w') (h:wpList P ops Q rest (a.put o.dst v') w'):wpList P ops Q (o::rest) a w:=
 wpList_plain Mh fun _ hK=>by unfold Oper.wp execOp;simp only [ho,resolve,invoke,builtin,Sem.run_bind,Sem.run_pure,Result.andThen_ok,List.map_toArray,List.map_cons,List.map_nil,hd,hs,hr];exact hK _ _ h
theorem Z1 {P:Program} {ops:Array Oper} {o:Oper} {a:Act} {w:World} {K:Act→World→Prop} {Q:Exit→Act→World→Prop} {E:Prop}
  (hg:o.guard=none) (d x:Operand) (dT sT:TypeId) (Az:o.op=Op.call {callee:=Callee.builtin Builtin.copy,args:= #[d,x],argTypes:= #[dT,sT]})
  (v u:Value) (hd:a.eval d=v) (hx:a.eval x=u) {v':Value} {w':World} (hr:(Builtin.copy_ #[dT,sT] o.type #[v,u]).run P w= .ok v' w') (hK:K (a.put o.dst v') w'):
  if Region.wanted o (yielded ops a.tmps)=true then Oper.wp P o a w K Q else E:=by
 have hw:Region.wanted o (yielded ops a.tmps)=true:=by simp [Region.wanted,hg]
 rw [if_pos hw];unfold Oper.wp;simp [execOp,Az,resolve,invoke,builtin,hd,hx,hr,Result.andThen];exact hK
def Fw (w:World) (el:TypeId) (k:Nat) (g cap:Nat) (C:Array Value) (n:Nat) (cs:List Value):Prop:=
 n≤cap∧cap≤maxLen∧w.heap[g]?=some (.cells C el (0,0))∧C.size=cap*k∧cs=C.toList.take (n*k)
def L9 (w w':World) (el:TypeId) (k:Nat) (own:List Nat) (v:Value) (n:Nat) (cs:List Value):Prop:=
 ∃g cap C,v= .slice (some ⟨g,0,none⟩) n cap∧Fw w' el k g cap C n cs∧Mod own w w'∧(g∈own∨w.heap.size≤g)
def XH (P:Program) (f:Nat) (el:TypeId) (k:Nat):Prop:=
 ∀(w:World) (v:Value) (n i:Nat) (cs:List Value) (own:List Nat) (vb vc m:Nat) (VC:Array Value) (vs:List Value),cs.length=n*k→
  ((n=0∧ ∃q,v= .slice q 0 0)∨ ∃g cap C,v= .slice (some ⟨g,0,none⟩) n cap∧Fw w el k g cap C n cs∧g∈own)→i≤n→Fw w el k vb vc VC m vs→(∀g∈own,vb≠g)→0<m→(n+m)*1000≤140737488355328→
  (∀u∈vs,u.oneCell'=true)→(∀u∈cs,u.oneCell'=true)→
  Calls P f #[v, .int .i64 i, .slice (some ⟨vb,0,none⟩) m vc] w fun e w'=> ∃u,e= .returned u∧L9 w w' el k own u (n+m) (cs.take (i*k)++vs++cs.drop (i*k))
theorem Fw.cell {w:World} {el:TypeId} {k g cap:Nat} {C:Array Value} {n:Nat} {cs:List Value} (h:Fw w el k g cap C n cs) (off j:Nat) (v:Value) (hj:(cs.drop off)[j]?=some v):w.cell? ((⟨g,off,none⟩:Addr).add j)=some v:=by
 obtain⟨_,_,h3,_,h5⟩:=h;rw [Addr.add_lit,D5 h3];rw [List.getElem?_drop,h5,List.getElem?_take]at hj;split at hj
 ·simpa using hj
 ·cases hj
theorem Fw.len {w:World} {el:TypeId} {k g cap:Nat} {C:Array Value} {n:Nat} {cs:List Value} (h:Fw w el k g cap C n cs):cs.length=n*k:=by obtain⟨h1,_,_,h4,h5⟩:=h;have:=Nat.mul_le_mul_right k h1;rw [h5,List.length_take,Array.length_toList];omega
theorem xD {α:Type} (cur cs vs:List α) (i m n:Nat) (hc:cs=cur.take n) (hi:i≤n) (hv:vs.length=m) (hn:n+m≤cur.length):
  let c1:=cur.take (i+m)++cs.drop i++cur.drop (i+m+(cs.drop i).length)
  (c1.take i++vs++c1.drop (i+vs.length)).take (n+m)=cs.take i++vs++cs.drop i:=by
 have Aw:cs.length=n:=by rw [hc,List.length_take];omega
 have hd:(cs.drop i).length=n-i:=by rw [List.length_drop,Aw]
 intro c1;have e1:c1.take i=cs.take i:=by show(cur.take (i+m)++cs.drop i++_).take i=_;rw [List.append_assoc,List.take_append_of_le_length (by rw [List.length_take];omega),List.take_take,hc,List.take_take];congr 1;omega
 have e2:c1.drop (i+vs.length)=cs.drop i++cur.drop (i+m+(cs.drop i).length):=by show(cur.take (i+m)++cs.drop i++_).drop _=_;rw [List.append_assoc,List.drop_append_of_le_length (by rw [List.length_take,hv];omega),List.drop_eq_nil_of_le (by rw [List.length_take,hv];omega),List.nil_append]
 rw [e1,e2];have l1:(cs.take i++vs++cs.drop i).length=n+m:=by simp only [AB,List.length_take,hv,hd,Aw];omega
 rw [←List.append_assoc,←l1,List.take_left]
theorem two {α:Type} (zs cs vs:List α) (i m n:Nat) (cur:List α) (FB:cur=cs.take i++zs) (Aw:cs.length=n) (hi:i≤n) (hv:vs.length=m) (hz:n+m-i≤zs.length):
  let c1:=cur.take i++vs++cur.drop (i+vs.length)
  (c1.take (i+m)++cs.drop i++c1.drop (i+m+(cs.drop i).length)).take (n+m)=cs.take i++vs++cs.drop i:=by
 have ht:(cs.take i).length=i:=by rw [List.length_take];omega
 intro c1;have e1:c1=cs.take i++vs++cur.drop (i+vs.length):=by show cur.take i++vs++cur.drop (i+vs.length)=_;rw [FB];congr 2;rw [List.take_append_of_le_length (by omega),List.take_take,Nat.min_self]
 have e2:c1.take (i+m)=cs.take i++vs:=by
  have l2:(cs.take i++vs).length=i+m:=by rw [AB,ht,hv]
  rw [e1,←l2,List.take_left]
 rw [e2];have l1:(cs.take i++vs++cs.drop i).length=n+m:=by simp only [AB,ht,hv,List.length_drop,Aw];omega
 rw [←l1,List.take_left]
theorem WH (xs ys:List AV):Ay (xs++ys)=Ay xs++Ay ys:=by simp [Ay]
theorem rB {K:Nat} {xs:List AV} (h: ∀y∈xs,y.cells.length=K) {i:Nat} (hi:i≤xs.length):Ay (xs.take i)=(Ay xs).take (i*K)∧Ay (xs.drop i)=(Ay xs).drop (i*K):=by
 have l1:(Ay (xs.take i)).length=i*K:=by rw [Kj _ fun y hy=>h y (List.mem_of_mem_take hy),List.length_take,Nat.min_eq_left hi]
 have e:Ay xs=Ay (xs.take i)++Ay (xs.drop i):=by rw [←WH,List.take_append_drop]
 rw [e,←l1,List.take_left,List.drop_left];exact⟨rfl,rfl⟩
theorem Co.kr {w:World} {el K:Nat} {v:Value} {x:AV} {top:List Nat} (h:Co w el K v x top []): ∃xs cs,x= .sl xs∧0<K∧(∀y∈xs,y.cells.length=K)∧cs.length=xs.length*K∧Rd w cs (Ay xs) []∧(∀u∈cs,u.oneCell'=true)∧
  ((xs= []∧top= []∧ ∃q,v= .slice q 0 0)∨ ∃g cap C,v= .slice (some ⟨g,0,none⟩) xs.length cap∧Fw w el K g cap C xs.length cs∧top= [g]):=by
 obtain⟨xs,rfl,h2,h3,⟨rfl,⟨a,hv⟩,rfl,_⟩|⟨g,cap,C,rfl,h6,h7,h8,h9,rfl,EG,EN⟩⟩:=h
 ·exact⟨[], [],rfl,h3,h2,by simp,by simpa [Ay]using Rd.nil,by simp, .inl ⟨rfl,rfl,a,hv⟩⟩
 ·exact⟨xs,_,rfl,h3,h2,(Fw.len ⟨h6,h7,h8,h9,rfl⟩),EN,EG, .inr ⟨g,cap,C,rfl,⟨h6,h7,h8,h9,rfl⟩,rfl⟩⟩
theorem bN {P:Program} {w:World} {t el:TypeId} {v:Value} {x:AV} {rf hs:List Nat} (ha:Ai P t=false) (hl:AM P t= [t]) (he:Cc P t=some el) (hf:BC P el=true) (h:L1 P w t [true] v x rf hs):rf= []∧Co w el (P.cellsOf el) v x hs []:=by
 obtain⟨us,ys,h1,h2⟩:=h;rw [ha]at h1;simp only [AY,if_false]at h1;obtain⟨rfl,rfl⟩:=h1;rw [hl]at h2;cases h2 with
 |own q1 q2 q3 q4 q5=>
  cases q5;rw [he]at q2;cases q2;rcases q3 with⟨_,rfl⟩|⟨h,_⟩
  ·exact⟨rfl,by simpa using q4⟩
  ·rw [hf]at h;cases h
 |deep q1 q2 q3=>rw [he]at q2;cases q2;rw [hf]at q3;cases q3
 |rd q1=>have:=q1 rfl;rw [he]at this;cases this
def X1 (P:Program) (sg:Bo) (f:Nat) (t it el K:Nat):Bool:=
 match P.funcs[f]?,sg f with
 |some fn,some s=>(match s.bj,s.res,s.ft,s.lo with
  | [.va [true], .ro, .va [true]], [true], [], []=>true
  |_,_,_,_=>false)&&fn.body.isSome&& !(fn.name== "runtime.NumGoroutine")&&fn.params.toList== [t,it,t]&&fn.resultTypes.toList== [t]&&fn.nfree==0&& !Ai P t&&AM P t== [t]&&Cc P t==some el&&BC P el&&P.cellsOf el==K&&Ft P t [true]&&fn.params.size==3
 |_,_=>false
def XV (P:Program) (sg:Bo) (f:Nat) (r:List AV):Bool:=match P.funcs[f]?,sg f with
 |some fn,some s=>Kk P fn s (.sl r)
 |_,_=>false
theorem wX {f t it el K:Nat} (hk:X1 Tryz.prog Cb f t it el K=true) (Ea: ∀r,XV Tryz.prog Cb f r=true) (KU:XH Tryz.prog f el K) (xs ys:List AV) (i:Int) (h0:0≤i) (h1:i≤xs.length) (hy:ys≠ []) (hb:(xs.length+ys.length)*1000≤140737488355328):
  Cd Tryz.prog Cb f [.sl xs, .int .i64 i, .sl ys] (.sl (xs.take i.toNat++ys++xs.drop i.toNat)):=by
 unfold X1 at hk;split at hk
 ·rename_i fn s hf hs;simp only [Ad,Bool.not_eq_true',beq_iff_eq]at hk;obtain⟨⟨⟨⟨⟨⟨⟨⟨⟨⟨⟨⟨g1,g2⟩,g3⟩,g4⟩,g5⟩,g6⟩,g7⟩,g8⟩,g9⟩,g10⟩,g11⟩,g12⟩,g13⟩:=hk;obtain⟨hm,hr,Dt,BD⟩:s.bj= [.va [true], .ro, .va [true]]∧s.res= [true]∧s.ft= []∧s.lo= []:=by
   split at g1
   ·rename_i a b c d;exact⟨a,b,c,d⟩
   ·cases g1
  unfold Cd;rw [if_pos (No f s hs)];refine⟨s,hs,fn,hf,g2,g3,by have:=Ea (xs.take i.toNat++ys++xs.drop i.toNat);unfold XV at this;rw [hf,hs]at this;exact this,by simp [g6,g13],by simp [Dt],fun w vs rf lf AT Ao hd _ BF Dl=> ?_⟩;rw [g4,Dt,List.append_nil,hm,BD]at Ao;cases Ao with
  |lent h _ _ _=>cases h
  | @cons _ _ _ _ v1 vs1 _ _ f1 k1 rf1 lf1 Bj a1 Ao=>
   cases Ao with
   |lent h _ _ _=>cases h
   | @cons _ _ _ _ v2 vs2 _ _ f2 k2 rf2 lf2 AL a2 Ao=>
    cases Ao with
    |lent h _ _ _=>cases h
    | @cons _ _ _ _ v3 vs3 _ _ f3 k3 rf3 lf3 E4 a3 Ao=>
     cases Ao;obtain⟨rfl,r1⟩:=bN g7 g8 g9 g10 a1;obtain⟨rfl,r3⟩:=bN g7 g8 g9 g10 a3;obtain⟨a2,rfl⟩:Rd w [v2] [AV.int .i64 i] f2∧k2= []:=a2;obtain⟨us,rfl2,hI,a2⟩:=Qf a2;obtain⟨rfl,rfl⟩:=S4 a2;cases rfl2;obtain⟨xs',cs,e1,p0,p1,p2,p3,p4,p5⟩:=r1.kr;cases e1;obtain⟨ys',cv,e2,_,q1,q2,q3,q4,q5⟩:=r3.kr;cases e2;rw [g11]at p0 p1 p2 p5 q1 q2 q5;obtain⟨vb,vc,VC,rfl,hv,rfl⟩: ∃g cap C,v3= .slice (some ⟨g,0,none⟩) ys.length cap∧Fw w el K g cap C ys.length cv∧k3= [g]:=by
      rcases q5 with⟨h,_⟩|h
      ·exact absurd h hy
      ·exact h
     have jT:k1++ [vb]=k1++([]++([vb]++ [])):=by simp
     have QQ: ∀g∈k1,vb≠g:=by intro g hg e;subst e;have:=(List.nodup_append.1 BF).2.2 vb hg vb (by simp);exact this rfl
     have kT:0<ys.length:=by cases ys with|nil=>exact absurd rfl hy|cons=>simp
     have hc:=KU w v1 xs.length i.toNat cs k1 vb vc ys.length VC cv p2 (by
      rcases p5 with⟨rfl,_,q,rfl⟩|⟨g,cap,C,rfl,h,rfl⟩
      ·exact .inl ⟨rfl,q,rfl⟩
      ·exact .inr ⟨g,cap,C,rfl,h,by simp⟩) (by omega) hv QQ kT hb q4 p4
     rw [show((i.toNat:Nat):Int)=i by omega]at hc;refine hc.mono ?_;rintro e w' ⟨u,rfl,g,cap,C,rfl,⟨z1,z2,z3,z4,z5⟩,CB,CA⟩;have G0: ∀{us:List Value} {zs:List AV},Rd w us zs []→Rd w' us zs []:=fun h=>h.frame (by simp);have cut: ∀o n,Rd w ((cs.drop o).take n) (((Ay xs).drop o).take n) []:=fun o n=>by
      obtain⟨gg,k1,k2⟩:=p3.piece o n;have:gg= []:=List.eq_nil_iff_forall_not_mem.2 fun b hb=>by simpa using k1 b hb
      rw [this]at k2;exact k2
     obtain⟨t1,t2⟩:=rB p1 (i:=i.toNat) (by omega);have hmul:=Nat.mul_le_mul_right K (show i.toNat≤xs.length by omega);have CL:Rd w' (cs.take (i.toNat*K)++cv++cs.drop (i.toNat*K)) (Ay (xs.take i.toNat++ys++xs.drop i.toNat)) []:=by rw [WH,WH,t1,t2];have c1:=cut 0 (i.toNat*K);have c2:=cut (i.toNat*K) (cs.length-i.toNat*K);rw [List.drop_zero,List.drop_zero]at c1;rw [List.take_of_length_le (by simp),List.take_of_length_le (by rw [List.length_drop,Kj _ p1,p2];exact Nat.le_refl _)]at c2;exact(((G0 c1).app (G0 q3)).app (G0 c2))
     have hlen:(xs.take i.toNat++ys++xs.drop i.toNat).length=xs.length+ys.length:=by simp only [AB,List.length_take,List.length_drop];omega
     have Ba:Co w' el K (.slice (some ⟨g,0,none⟩) (xs.length+ys.length) cap) (.sl (xs.take i.toNat++ys++xs.drop i.toNat)) [g] []:=by
      refine⟨_,rfl,fun y hy=> ?_,p0, .inr ⟨g,cap,C,by rw [hlen],by rw [hlen];exact z1,z2,z3,z4,rfl, ?_, ?_⟩⟩
      ·rcases Ag.1 hy with hy|hy
       ·rcases Ag.1 hy with hy|hy
        ·exact p1 y (List.mem_of_mem_take hy)
        ·exact q1 y hy
       ·exact p1 y (List.mem_of_mem_drop hy)
      ·rw [hlen,←z5];intro u hu;rcases Ag.1 hu with hu|hu
       ·rcases Ag.1 hu with hu|hu
        ·exact p4 u (List.mem_of_mem_take hu)
        ·exact q4 u hu
       ·exact p4 u (List.mem_of_mem_drop hu)
      ·rw [hlen,←z5];exact CL
     refine⟨_,rfl,⟨⟨_, [], [], [g], [], [],rfl, ?_, ?_,by simp, ?_,by simp⟩,CB.weaken fun b hb=> .inl (by simp [hb])⟩⟩
     ·rw [g5];show DO Tryz.prog w' t s.res _ _ [] [g];unfold DO;rw [hr,if_pos g12];refine⟨[.slice (some ⟨g,0,none⟩) (xs.length+ys.length) cap], [.sl (xs.take i.toNat++ys++xs.drop i.toNat)],by rw [g7];simp, ?_⟩;rw [g8];have:=BP.own (P:=Tryz.prog) (t:=t) (ts:= []) (fl:= [true]) (us:= []) (ys:= []) (rf:= []) (hs:= []) rfl g9 (.inl ⟨g10,rfl⟩) (by rw [g11];exact Ba) .nil;simpa using this
     ·rw [g4,Dt,List.append_nil,hm];exact .va rfl (.ro rfl (.va rfl .nil))
     ·intro b hb;simp only [List.append_nil,List.mem_singleton]at hb;subst hb;exact⟨by rcases CA with h|h;exact .inl (by simp [h]);exact .inr h,EI z3⟩
 ·cases hk
def SN {α:Type} (xs:List α) (i:Int) (ys:List α):Option (List α):=req (0≤i∧i≤xs.length∧0<ys.length∧(xs.length+ys.length)*1000≤140737488355328) (some (xs.take i.toNat++ys++xs.drop i.toNat))
theorem wW {f t it el K:Nat} (hk:X1 Tryz.prog Cb f t it el K=true) (Ea: ∀r,XV Tryz.prog Cb f r=true) (KU:XH Tryz.prog f el K) {α:Type} {av:α→AV} {xs ys r:List α} {i:Int} (h:SN xs i ys=some r):
  Cd Tryz.prog Cb f [.sl (xs.map av), .int .i64 i, .sl (ys.map av)] (.sl (r.map av)):=by
 obtain⟨⟨h0,h1,h2,h3⟩,h⟩:=Gv h;cases h;have:=wX hk Ea KU (xs.map av) (ys.map av) i h0 (by simpa using h1) (by cases ys with|nil=>simp at h2|cons=>simp) (by simpa using h3);simpa [List.map_append,List.map_take,List.map_drop]using this
theorem Wz: ∃i z,Tryz.prog.info? 74=some i∧i.size=3∧i.zero=some z∧z.cells.size=3∧i.bytes≤1000:=by
 have h:(match Tryz.prog.info? 74 with|some i=>(match i.zero with|some z=>i.size==3&&z.cells.size==3&&decide (i.bytes≤1000)|none=>false)|none=>false)=true:=by kernel_rfl
 split at h
 ·rename_i i hi;split at h
  ·rename_i z hz;simp only [Ad,beq_iff_eq,decide_eq_true_eq]at h;exact⟨i,z,hi,h.1.1,hz,h.1.2,h.2⟩
  ·cases h
 ·cases h
set_option maxHeartbeats 4000000 in
theorem nV (w:World) (v:Value) (n:Nat) (cs:List Value) (own:List Nat) (Aw:cs.length=n*3) (Bg:(n=0∧ ∃q,v= .slice q 0 0)∨ ∃g cap C,v= .slice (some ⟨g,0,none⟩) n cap∧Fw w 74 3 g cap C n cs∧g∈own)
  (vb vc m:Nat) (VC:Array Value) (vs:List Value) (hv:Fw w 74 3 vb vc VC m vs) (hm:0<m) (hb:(n+m)*1000≤140737488355328) (IF: ∀u∈vs,u.oneCell'=true):
  Calls Tryz.prog 228 #[v, .int .i64 n, .slice (some ⟨vb,0,none⟩) m vc] w fun e w'=> ∃u,e= .returned u∧L9 w w' 74 3 own u (n+m) (cs++vs):=by
 obtain⟨i0,z0,hi,hs,hz,C4,Ff⟩:=Wz;have Rc: ¬((m:Int)=0):=by omega
 have Eu:Src w i0.size (some ⟨vb,0,none⟩) m vs:= .inr ⟨_,rfl,by rw [hs];exact hv.len,fun j u hj=>hv.cell 0 j u (by simpa using hj),IF⟩;obtain⟨v',w1,hr,AG⟩:=Xf (P:=Tryz.prog) w 47 47 74 i0 z0 Tryz.underlying47 hi hz (by rw [C4,hs]) (by omega) (fun b=>b∈own) v n cs (by rw [hs];exact Aw)
  (by
   rcases Bg with h|⟨g,cap,C,rfl,⟨h1,h2,h3,h4,h5⟩,h6⟩
   ·exact .inl h
   ·exact .inr ⟨g,cap,C,rfl,h1,h2,h3,by rw [hs];exact h4,by rw [hs];exact h5,h6⟩)
  (some ⟨vb,0,none⟩) m vc vs Eu (by simp only [maxLen];omega) (by have:=Nat.mul_le_mul_left (n+m) Ff;omega)
 have fin:L9 w w1 74 3 own v' (n+m) (cs++vs):=by
  rcases AG with⟨_,_,h⟩|⟨g,cap,C,rfl,h1,h2,h3,h4,h5,h6,h7⟩
  ·omega
  ·refine⟨g,cap,C,rfl,⟨h1,h2,h3,by rw [hs]at h4;exact h4,by rw [hs]at h5;exact h5.symm⟩, ?_,h7.symm.imp id fun h=>by omega⟩;refine⟨h6.os,h6.tape,h6.output,h6.size,fun b hb hn=>h6.block b hb fun e=> ?_⟩;cases e;rcases h7 with h7|h7
   ·omega
   ·exact hn h7
 clear AG;rcases Bg with⟨rfl,q,rfl⟩|⟨g,cap,C,rfl,_,_⟩
 ·cases q with
  |none=>
   go_enter Tryz.func228,Tryz.ntmps228
   go_wp2_with (at_builtin;refine Lib.wpList_append_run _ rfl _ _ _ _ rfl _ _ rfl rfl _ _ hr ?_)
   all_goals (go_ret;exact⟨_,rfl,fin⟩)
  |some q=>
   obtain⟨qb,qo,qs⟩:=q
   go_enter Tryz.func228,Tryz.ntmps228
   go_wp2_with (at_builtin;refine Lib.wpList_append_run _ rfl _ _ _ _ rfl _ _ rfl rfl _ _ hr ?_)
   all_goals (go_ret;exact⟨_,rfl,fin⟩)
 ·go_enter Tryz.func228,Tryz.ntmps228
  go_wp2_with (at_builtin;refine Lib.wpList_append_run _ rfl _ _ _ _ rfl _ _ rfl rfl _ _ hr ?_)
  all_goals (go_ret;exact⟨_,rfl,fin⟩)
set_option maxHeartbeats 4000000 in
theorem nP (w:World) (n i g cap:Nat) (C:Array Value) (cs:List Value) (own:List Nat) (vb vc m:Nat) (Bg:Fw w 74 3 g cap C n cs) (BZ:i<n) (BV:cap<n+m)
  (VC:Array Value) (vs:List Value) (hv:Fw w 74 3 vb vc VC m vs) (hm:0<m) (hb:(n+m)*1000≤140737488355328) (IF: ∀u∈vs,u.oneCell'=true) (GY: ∀u∈cs,u.oneCell'=true):
  Calls Tryz.prog 228 #[.slice (some ⟨g,0,none⟩) n cap, .int .i64 i, .slice (some ⟨vb,0,none⟩) m vc] w fun e w'=> ∃u,e= .returned u∧L9 w w' 74 3 own u (n+m) (cs.take (i*3)++vs++cs.drop (i*3)):=by
 obtain⟨i0,z0,hi,hs,hz,C4,Ff⟩:=Wz;have Aw:=Bg.len;have Dn:=hv.len;have TZ:=Bg;obtain⟨OE,IP,hg,NQ,A2⟩:=TZ;have KP:g<w.heap.size:=EI hg;have zB:vb<w.heap.size:=EI hv.2.2.1;have BA:(Tryz.prog.info? 74).map (·.size)=some 3:=by rw [hi];simp [hs]
 have Uo:i+(n+m-i)=n+m:=by omega
 have QS:(n+m)*i0.bytes≤140737488355328:=Nat.le_trans (Nat.mul_le_mul_left _ Ff) hb;have Yj:(n+m-i)*i0.bytes≤140737488355328:=Nat.le_trans (Nat.mul_le_mul_right _ (by omega)) QS;have hold:(Builtin.firstCells i0.size i (.slice (some ⟨g,0,none⟩) i cap)).run Tryz.prog w.drew= .ok (cs.take (i*3)).toArray w.drew:=by
  rw [hs];exact run_firstCells_some w.drew 3 i ⟨g,0,none⟩ i cap (cs.take (i*3)) (by rw [List.length_take];omega) (fun j v hj=>by
   rw [List.getElem?_take]at hj;split at hj
   ·exact Bg.cell 0 j v (by simpa using hj)
   ·cases hj)
 have U2: ∀ty,(Builtin.append_ #[47,3] ty #[.slice (some ⟨g,0,none⟩) i cap, .int .i64 ((n:Int)+(m:Int)-(i:Int))]).run Tryz.prog w=
   .ok (.slice (some ⟨w.heap.size,0,none⟩) (n+m) (grownCap w (n+m) cap 74)) (w.drew.alloc (.cells ((cs.take (i*3)).toArray++Builtin.zeroCells z0.cells (n+m-i)++Builtin.zeroCells z0.cells (grownCap w (n+m) cap 74-(n+m))) 74)):=fun ty=>by
  have h:=Lib.run_append_grow_zeros w 47 3 ty 74 i0 z0 .i64 .i64 Tryz.underlying47 Tryz.underlying3 hi hz (some ⟨g,0,none⟩) i cap (cs.take (i*3)) hold (n+m-i) (by omega) (by omega) (by omega) (by omega) (by omega) (by rw [Uo];exact growslice_fits BV QS);rw [Uo]at h;rw [show(n:Int)+(m:Int)-(i:Int)=((n+m-i:Nat):Int) by omega];exact h
 obtain⟨G,hG⟩: ∃G,G=grownCap w (n+m) cap 74:=⟨_,rfl⟩
 obtain⟨ROW,II⟩: ∃ROW:Array Value,ROW=(cs.take (i*3)).toArray++Builtin.zeroCells z0.cells (n+m-i)++Builtin.zeroCells z0.cells (G-(n+m)):=⟨_,rfl⟩
 have iB:n+m≤G:=by rw [hG];exact grownCap_ge w _ _ _
 have NS:G≤maxLen:=by rw [hG];exact grownCap_le_maxLen w (n+m) cap 74 (by unfold maxLen;omega)
 have hP:G≤9223372036854775807:=NS;rw [←hG]at U2;rw [←II]at U2;have iG:ROW.size=G*3:=by rw [II];simp only [Array.size_append,List.size_toArray,List.length_take,size_zeroCells,C4];omega
 obtain⟨ROW2,Mf⟩: ∃R:Array Value,R=(ROW.toList.take (i*3)++vs++ROW.toList.drop (i*3+vs.length)).toArray:=⟨_,rfl⟩
 obtain⟨ROW3,QO⟩: ∃R:Array Value,R=(ROW2.toList.take ((i+m)*3)++cs.drop (i*3)++ROW2.toList.drop ((i+m)*3+(cs.drop (i*3)).length)).toArray:=⟨_,rfl⟩
 have TM:ROW2.size=G*3:=by rw [Mf];simp only [List.size_toArray,AB,List.length_take,List.length_drop,Array.length_toList];omega
 have TN:ROW3.size=G*3:=by rw [QO];simp only [List.size_toArray,AB,List.length_take,List.length_drop,Array.length_toList];omega
 obtain⟨N,hN⟩: ∃N,N=w.heap.size:=⟨_,rfl⟩
 have hA:(w.alloc (.cells ROW 74)).heap[N]?=some (.cells ROW 74 (0,0)):=by rw [hN];exact heap_alloc_new w _
 have hO: ∀k,k<N→(w.alloc (.cells ROW 74)).heap[k]?=w.heap[k]?:=fun k hk=>Below.heap_alloc w _ k (by omega);have T3: ∀(W:World),W.heap=(w.alloc (.cells ROW 74)).heap→ ∀ty dc,(Builtin.copy_ #[47,47] ty #[.slice (some ⟨N,i*3,none⟩) (n+m-i) dc, .slice (some ⟨vb,0,none⟩) m vc]).run Tryz.prog W= .ok (goInt m) (W.setRow N ROW2):=fun W hW ty dc=>by
  have h:=R9 (P:=Tryz.prog) W 47 47 ty 74 3 N (i*3) (n+m-i) dc ⟨vb,0,none⟩ m vc ROW 74 vs Tryz.underlying47 BA (by rw [hW];exact hA) (by rw [Dn,show Nat.min m (n+m-i)=m from Nat.min_eq_left (by omega)])
   (fun j v hj=>by rw [World.cell?_of_block (w:=w) (by rw [Addr.add_lit,hW];exact hO vb (by omega))];exact hv.cell 0 j v (by simpa using hj)) (by rw [iG,Dn];omega) IF
  rw [show Nat.min m (n+m-i)=m from Nat.min_eq_left (by omega),←Mf]at h;exact h
 have hB:((w.alloc (.cells ROW 74)).setRow N ROW2).heap[N]?=some (.cells ROW2 74 (0,0)):=setRow_heap _ _ _ _ _ _ hA;have TK: ∀k,k<N→((w.alloc (.cells ROW 74)).setRow N ROW2).heap[k]?=w.heap[k]?:=fun k hk=>by rw [setRow_other _ _ _ _ (by omega)];exact hO k hk
 have Od: ∀(W:World),W.heap=((w.alloc (.cells ROW 74)).setRow N ROW2).heap→ ∀ty dc sc,(Builtin.copy_ #[47,47] ty #[.slice (some ⟨N,(i+m)*3,none⟩) (n+m-(i+m)) dc, .slice (some ⟨g,i*3,none⟩) (n-i) sc]).run Tryz.prog W= .ok (goInt ((n-i:Nat):Int)) (W.setRow N ROW3):=fun W hW ty dc sc=>by
  have h:=R9 (P:=Tryz.prog) W 47 47 ty 74 3 N ((i+m)*3) (n+m-(i+m)) dc ⟨g,i*3,none⟩ (n-i) sc ROW2 74 (cs.drop (i*3)) Tryz.underlying47 BA (by rw [hW];exact hB) (by rw [List.length_drop,Aw,show Nat.min (n-i) (n+m-(i+m))=n-i from Nat.min_eq_left (by omega)];omega)
   (fun j v hj=>by rw [World.cell?_of_block (w:=w) (by rw [Addr.add_lit,hW];exact TK g (by omega))];exact Bg.cell (i*3) j v hj) (by rw [TM,List.length_drop,Aw];omega) (fun v hv=>GY v (List.mem_of_mem_drop hv))
  rw [show Nat.min (n-i) (n+m-(i+m))=n-i from Nat.min_eq_left (by omega),←QO]at h;exact h
 have fin: ∀W:World,W.os=w.os→W.tape=w.tape→W.output=w.output→W.heap=(((w.alloc (.cells ROW 74)).setRow N ROW2).setRow N ROW3).heap→L9 w W 74 3 own (.slice (some ⟨N,0,none⟩) (n+m) G) (n+m) (cs.take (i*3)++vs++cs.drop (i*3)):=fun W w1 w2 w3 hW=>by refine⟨N,G,ROW3,rfl,⟨iB,NS,by rw [hW];exact setRow_heap _ _ _ _ _ _ hB,TN, ?_⟩,⟨w1,w2,w3,by rw [hW];simp,fun k hk _=>by rw [hW,setRow_other _ _ _ _ (by omega)];exact TK k (by omega)⟩, .inr (by omega)⟩;have h:=two ((Builtin.zeroCells z0.cells (n+m-i)).toList++(Builtin.zeroCells z0.cells (G-(n+m))).toList) cs vs (i*3) (m*3) (n*3) ROW.toList (by rw [II];simp) Aw (Nat.mul_le_mul_right _ (by omega)) Dn (by simp only [AB,Array.length_toList,size_zeroCells,C4];omega);rw [QO,Mf,Nat.add_mul n m,Nat.add_mul i m];exact h.symm
 have Rc: ¬((m:Int)=0):=by omega
 have O4: ¬((i:Int)=(n:Int)):=by omega
 have kV:(cap:Int)<(n:Int)+(m:Int):=by omega
 have yD: ¬(G=i):=by omega
 have iA: ¬(G=i+m):=by omega
 have Oa: ¬(cap=i):=by omega
 have Mp:IntKind.i64.wrap ((i:Int)+(m:Int))=(i:Int)+(m:Int):=by rw [IntKind.wrap_i64];omega
 have Gy:(0:Int)≤(i:Int)+(m:Int):=by omega
 have Uq:i≤n:=by omega
 have kK:((i:Int)+(m:Int)).toNat=i+m:=by omega
 have TU:(i:Int)≤(n:Int):=by omega
 have X7:((w.alloc (.cells ROW 74)).drew).heap=(w.alloc (.cells ROW 74)).heap:=rfl;have TD:(((w.alloc (.cells ROW 74)).drew.setRow N ROW2).drew).heap=((w.alloc (.cells ROW 74)).setRow N ROW2).heap:=rfl;subst hN;clear hold Uo II hG Mf QO hA hO hB TK A2
 go_enter Tryz.func228,Tryz.ntmps228
 go_wp2_with (first
  |(at_builtin;refine Lib.wpList_append_run _ rfl _ _ _ _ rfl _ _ rfl rfl _ _ (U2 _) ?_)
  |(at_builtin;refine VM _ rfl _ _ 47 47 rfl _ _ rfl rfl (T3 _ X7 _ _) ?_)
  |(at_builtin;refine VM _ rfl _ _ 47 47 rfl _ _ rfl rfl (Od _ rfl _ _ _) ?_))
 go_region_law (refine Z1 rfl _ _ 47 47 rfl (.slice (some ⟨w.heap.size,(i+m)*3,none⟩) (n+m-(i+m)) (G-(i+m))) (.slice (some ⟨g,i*3,none⟩) (n-i) (cap-i)) (by simp [Act.eval,Act.put]) (by simp [Act.eval,Act.put]) (Od _ TD 3 (G-(i+m)) (cap-i)) ?_)
 go_wp2
 go_ret
 exact⟨_,rfl,fin _ rfl rfl rfl rfl⟩
set_option maxHeartbeats 4000000 in
theorem mW (w:World) (n i g cap:Nat) (C:Array Value) (cs:List Value) (own:List Nat) (vb vc m:Nat) (Bg:Fw w 74 3 g cap C n cs) (CA:g∈own) (BZ:i<n) (BV:n+m≤cap) (O1:vb≠g)
  (VC:Array Value) (vs:List Value) (hv:Fw w 74 3 vb vc VC m vs) (hm:0<m) (hb:(n+m)*1000≤140737488355328) (IF: ∀u∈vs,u.oneCell'=true) (GY: ∀u∈cs,u.oneCell'=true):
  Calls Tryz.prog 228 #[.slice (some ⟨g,0,none⟩) n cap, .int .i64 i, .slice (some ⟨vb,0,none⟩) m vc] w fun e w'=> ∃u,e= .returned u∧L9 w w' 74 3 own u (n+m) (cs.take (i*3)++vs++cs.drop (i*3)):=by
 obtain⟨i0,z0,hi,hs,hz,C4,Ff⟩:=Wz;have Aw:=Bg.len;have Dn:=hv.len;have TZ:=Bg;obtain⟨OE,IP,hg,NQ,A2⟩:=TZ;have KP:g<w.heap.size:=EI hg;have BA:(Tryz.prog.info? 74).map (·.size)=some 3:=by rw [hi];simp [hs]
 have iR:cap≤9223372036854775807:=IP;have Mq:=hv.2.2.1;have UR: ∀lb cb,(callFunc 269 #[.slice (some ⟨vb,0,none⟩) m vc, .slice (some ⟨g,(i+m)*3,none⟩) lb cb]).run Tryz.prog w= .ok (.value (.bool false)) w:=fun lb cb=>by
  rw [run_callFunc_extern Tryz.func269 (by kernel_rfl) (by kernel_rfl) (by kernel_rfl) (e:=Extern.SlicesOverlaps.overlaps #[47,47] #[4]) (by kernel_rfl),
   Lib.run_overlaps_apart w 47 4 74 Tryz.underlying47 3 (fun w=>by simp [Go.sizeOf,typeInfo,hi,hs]) ⟨vb,0,none⟩ ⟨g,(i+m)*3,none⟩ m vc lb cb O1 74 74 VC.size C.size (by simp [World.shape?,Mq]) (by simp [World.shape?,hg]) (by omega) (by simp [World.frozen?,Mq]) (by simp [World.frozen?,Mq])]
  rfl
 obtain⟨C1,IG⟩: ∃R:Array Value,R=(C.toList.take ((i+m)*3)++cs.drop (i*3)++C.toList.drop ((i+m)*3+(cs.drop (i*3)).length)).toArray:=⟨_,rfl⟩
 obtain⟨C2,QK⟩: ∃R:Array Value,R=(C1.toList.take (i*3)++vs++C1.toList.drop (i*3+vs.length)).toArray:=⟨_,rfl⟩
 have TB:C1.size=cap*3:=by rw [IG];simp only [List.size_toArray,AB,List.length_take,List.length_drop,Array.length_toList];omega
 have TC:C2.size=cap*3:=by rw [QK];simp only [List.size_toArray,AB,List.length_take,List.length_drop,Array.length_toList];omega
 have T1: ∀(W:World),W.heap=w.heap→ ∀ty dc sc,(Builtin.copy_ #[47,47] ty #[.slice (some ⟨g,(i+m)*3,none⟩) (n+m-(i+m)) dc, .slice (some ⟨g,i*3,none⟩) (n+m-i) sc]).run Tryz.prog W= .ok (goInt ((n-i:Nat):Int)) (W.setRow g C1):=fun W hW ty dc sc=>by
  have h:=R9 (P:=Tryz.prog) W 47 47 ty 74 3 g ((i+m)*3) (n+m-(i+m)) dc ⟨g,i*3,none⟩ (n+m-i) sc C 74 (cs.drop (i*3)) Tryz.underlying47 BA (by rw [hW];exact hg) (by rw [List.length_drop,Aw,show Nat.min (n+m-i) (n+m-(i+m))=n-i from by rw [show Nat.min (n+m-i) (n+m-(i+m))=n+m-(i+m)from Nat.min_eq_right (by omega)];omega];omega)
   (fun j v hj=>by rw [World.cell?_of_block (w:=w) (by rw [hW])];exact Bg.cell (i*3) j v hj) (by rw [NQ,List.length_drop,Aw];omega) (fun v hv=>GY v (List.mem_of_mem_drop hv))
  rw [show Nat.min (n+m-i) (n+m-(i+m))=n-i from by rw [show Nat.min (n+m-i) (n+m-(i+m))=n+m-(i+m)from Nat.min_eq_right (by omega)];omega,←IG]at h;exact h
 have hB:(w.setRow g C1).heap[g]?=some (.cells C1 74 (0,0)):=setRow_heap _ _ _ _ _ _ hg;have T2: ∀(W:World),W.heap=(w.setRow g C1).heap→ ∀ty dc,(Builtin.copy_ #[47,47] ty #[.slice (some ⟨g,i*3,none⟩) (n+m-i) dc, .slice (some ⟨vb,0,none⟩) m vc]).run Tryz.prog W= .ok (goInt m) (W.setRow g C2):=fun W hW ty dc=>by
  have h:=R9 (P:=Tryz.prog) W 47 47 ty 74 3 g (i*3) (n+m-i) dc ⟨vb,0,none⟩ m vc C1 74 vs Tryz.underlying47 BA (by rw [hW];exact hB) (by rw [Dn,show Nat.min m (n+m-i)=m from Nat.min_eq_left (by omega)])
   (fun j v hj=>by rw [World.cell?_of_block (w:=w) (by rw [Addr.add_lit,hW];exact setRow_other _ _ _ _ (by simpa using O1))];exact hv.cell 0 j v (by simpa using hj)) (by rw [TB,Dn];omega) IF
  rw [show Nat.min m (n+m-i)=m from Nat.min_eq_left (by omega),←QK]at h;exact h
 have fin: ∀W:World,W.os=w.os→W.tape=w.tape→W.output=w.output→W.heap=((w.setRow g C1).setRow g C2).heap→L9 w W 74 3 own (.slice (some ⟨g,0,none⟩) (n+m) cap) (n+m) (cs.take (i*3)++vs++cs.drop (i*3)):=fun W w1 w2 w3 hW=>by refine⟨g,cap,C2,rfl,⟨BV,IP,by rw [hW];exact setRow_heap _ _ _ _ _ _ hB,TC, ?_⟩,⟨w1,w2,w3,by rw [hW];simp,fun k hk hn=>by rw [hW,setRow_other _ _ _ _ (fun e=>hn (by first|(rw [e];exact CA)|(rw [←e];exact CA))),setRow_other _ _ _ _ (fun e=>hn (by first|(rw [e];exact CA)|(rw [←e];exact CA)))]⟩, .inl CA⟩;have h:=xD C.toList cs vs (i*3) (m*3) (n*3) A2 (Nat.mul_le_mul_right _ (by omega)) Dn (by rw [Array.length_toList,NQ];omega);rw [QK,IG,Nat.add_mul n m,Nat.add_mul i m];exact h.symm
 have Rc: ¬((m:Int)=0):=by omega
 have O4: ¬((i:Int)=(n:Int)):=by omega
 have kV: ¬((cap:Int)<(n:Int)+(m:Int)):=by omega
 have Oa: ¬(cap=i):=by omega
 have iT: ¬(cap=i+m):=by omega
 have Mp:IntKind.i64.wrap ((i:Int)+(m:Int))=(i:Int)+(m:Int):=by rw [IntKind.wrap_i64];omega
 have Gy:(0:Int)≤(i:Int)+(m:Int):=by omega
 have Uq:i≤n:=by omega
 have kK:((i:Int)+(m:Int)).toNat=i+m:=by omega
 have TU:(i:Int)≤(n:Int):=by omega
 have yQ:(i:Int)≤(n:Int)+(m:Int):=by omega
 have TD:(w.drew).heap=w.heap:=rfl;have hF:(w.drew.setRow g C1).heap=(w.setRow g C1).heap:=rfl;clear IG QK hB A2 Mq hg
 go_enter Tryz.func228,Tryz.ntmps228
 go_wp2_with (simp only [UR])
 go_region_law (refine Z1 rfl _ _ 47 47 rfl (.slice (some ⟨g,(i+m)*3,none⟩) (n+m-(i+m)) (cap-(i+m))) (.slice (some ⟨g,i*3,none⟩) (n+m-i) (cap-i)) (by simp [Act.eval,Act.put]) (by simp [Act.eval,Act.put]) (T1 _ TD 3 (cap-(i+m)) (cap-i)) ?_)
 go_wp2_with (at_builtin;refine VM _ rfl _ _ 47 47 rfl _ _ rfl rfl (T2 _ hF _ _) ?_)
 go_ret
 exact⟨_,rfl,fin _ rfl rfl rfl rfl⟩
theorem sW:XH Tryz.prog 228 74 3:=by
 intro w v n i cs own vb vc m VC vs Aw Bg BZ hv O1 hm hb IF GY;by_cases he:i=n
 ·subst he;refine(nV w v i cs own Aw Bg vb vc m VC vs hv hm hb IF).mono ?_;rintro e w' ⟨u,rfl,h⟩;refine⟨u,rfl, ?_⟩;rw [List.take_of_length_le (by omega),List.drop_eq_nil_of_le (by omega),List.append_nil];exact h
 ·rcases Bg with⟨rfl,_⟩|⟨g,cap,C,rfl,hr,hg⟩
  ·omega
  ·by_cases hc:n+m≤cap
   ·exact mW w n i g cap C cs own vb vc m hr hg (by omega) hc (O1 g hg) VC vs hv hm hb IF GY
   ·exact nP w n i g cap C cs own vb vc m hr (by omega) (by omega) VC vs hv hm hb IF GY
end Go.Proofs.YtollgpkegmbpmaaGreatDoor
end
noncomputable section
namespace Go.Proofs.YtollgpkegmbpmaaGreatDoor
open Go Go.Proofs Go.Shelf Go.Sort Go.RowKit
set_option maxRecDepth 100000
set_option maxHeartbeats 1000000
def gQ (P:Program) (sg:Bo) (f np:Nat) (r:AV):Bool:=
 match P.funcs[f]?,sg f with
 |some fn,some s=>fn.body.isSome&& !(fn.name== "runtime.NumGoroutine")&&Kk P fn s r&&s.bj.all (fun m=>match m with| .ro=>true|_=>false)&&fn.params.size==np&&fn.nfree==0&&(s.ft.isEmpty&&s.lo.isEmpty)&&(match fn.resultTypes.toList with| [t,u]=> !Ft P t s.res&& !Ft P u (s.res.drop (AM P t).length)|_=>false)
 |_,_=>false
theorem uA {f:Nat} {xs:List AV} {y1 y2:AV} (hk:gQ Tryz.prog Cb f xs.length (.tup [y1,y2])=true) (hc: ∀(w:World) (vs:List Value) (rf:List Nat),Ey.n≤w.heap.size→Ey.K w→Rd w vs xs rf→Calls Tryz.prog f vs.toArray w fun e w'=>Mod [] w w'∧ ∃v1 v2 f1 f2,e= .returned (.tuple #[v1,v2])∧Rd w' [v1] [y1] f1∧Rd w' [v2] [y2] f2∧ ∀b∈f1++f2,b∈rf∨w.heap.size≤b):Cd Tryz.prog Cb f xs (.tup [y1,y2]):=by
 unfold gQ at hk;split at hk
 ·rename_i fn s hf hs;simp only [Ad,Bool.not_eq_true',beq_iff_eq,AJ]at hk;obtain⟨⟨⟨⟨⟨⟨⟨h1,h2⟩,h3⟩,h4⟩,h5⟩,h6⟩,Dt⟩,h7⟩:=hk;obtain⟨Dt,BD⟩:s.ft= []∧s.lo= []:=by simpa using Dt
  have G5: ∀m∈s.bj,m= .ro:=fun m hm=>by
   have:=h4 m hm;split at this
   ·rfl
   ·cases this
  unfold Cd;rw [if_pos (No f s hs)];refine⟨s,hs,fn,hf,h1,h2,h3,by omega,by simp [Dt],fun w vs rf lf AT Ao hd _ BF Dl=> ?_⟩;obtain⟨hr,rfl⟩:=Ao.rd BD G5;refine(hc w vs rf Dl.1 Dl.2.1 hr).mono ?_;rintro e w' ⟨hm,v1,v2,f1,f2,rfl,Eh,CM,hb⟩;refine⟨_,rfl,⟨⟨.tup [y1,y2], [],f1++f2, [], [], [],rfl, ?_,C5.ia ?_ G5,by simp,by simp,fun b Bx=>⟨by simp, ?_⟩⟩,hm⟩⟩
  ·split at h7
   ·rename_i t u ht;simp only [Ad,Bool.not_eq_true']at h7;rw [ht];refine⟨[v1,v2], [y1,y2],rfl,rfl, ?_⟩;have a1:DO Tryz.prog w' t s.res v1 y1 f1 []:=by
     unfold DO;rw [if_neg (by rw [h7.1];simp)];exact⟨Eh,rfl⟩
    have a2:DO Tryz.prog w' u (s.res.drop (AM Tryz.prog t).length) v2 y2 f2 []:=by unfold DO;rw [if_neg (by rw [h7.2];simp)];exact⟨CM,rfl⟩
    have:=He.cons a1 (He.cons a2 (He.nil (P:=Tryz.prog) (w:=w') (fl:=(s.res.drop (AM Tryz.prog t).length).drop (AM Tryz.prog u).length)));simpa using this
   ·cases h7
  ·rw [hr.len];simp [Dt];omega
  ·rcases hb b (by simpa using Bx)with h|h
   ·exact .inl h
   ·exact .inr (.inr h)
 ·cases hk
def RY (n:Int):Option (Ah):=some (Lib.itoa n)
theorem cA {w:World} (h:Ey.K w):Lib.TabIs Tryz.prog w "internal/strconv.uint64pow10" .u64 Lib.pow10Tab:=by obtain⟨_,_,k⟩:=h;exact k.trans (by kernel_rfl)
theorem uN (n:Int) (h0: -9223372036854775808≤n) (h1:n≤9223372036854775807):(Lib.itoa n).length≤9223372036854775807:=by
 have key: ∀(k u:Nat),u<10^k→(Lib.decDigits u).length≤k+1:=by
  intro k
  induction k with
  |zero=>intro u hu;rw [Lib.decDigits,dif_pos (by omega)];simp
  |succ k ih=>
   intro u hu;rw [Lib.decDigits];split
   ·simp
   ·rw [AB,Bm];have:=ih (u/10) (by rw [Nat.pow_succ]at hu;omega);omega
 unfold Lib.itoa;split
 ·rw [AD];have:=key 20 n.natAbs (by omega);omega
 ·have:=key 20 n.toNat (by omega)
  omega
theorem Rf {n:Int} (h:DP .i64 n): -9223372036854775808≤n∧n≤9223372036854775807:=by unfold DP at h;rw [IntKind.wrap_i64]at h;omega
theorem dH (w:World) (k:Nat) (os:Array Obj):Mod [] w (grow (w.drewN k) os):=by
 refine⟨rfl,rfl,rfl, ?_,fun b hb _=> ?_⟩
 ·show w.heap.size≤(w.heap++os).size;rw [Array.size_append];omega
 ·show(w.heap++os)[b]?=w.heap[b]?;rw [Array.getElem?_append_left hb]
theorem nN (a0:Int) (r:Ah) (h:RY a0=some r):Cd Tryz.prog Cb 183 [.int .i64 a0] (.str r):=cO (by kernel_rfl) fun w vs rf hK hr=>by obtain⟨us,rfl,hn,hr⟩:=Qf hr;obtain⟨rfl,rfl⟩:=S4 hr;cases h;refine(Tryz.strconv_Itoa a0 (Rf hn).1 (Rf hn).2 w (cA hK)).mono ?_;rintro e w' ⟨rfl,k,os,rfl⟩;have hl:=uN a0 (Rf hn).1 (Rf hn).2;exact⟨dH w k os,_, [],rfl,by have:=Rd.str (w:=grow (w.drewN k) os) (s:=⟨(Lib.itoa a0).toArray⟩) (vs:= []) (xs:= []) (f:= []) (by show(Lib.itoa a0).toArray.size≤_;simpa using hl) .nil;simpa using this,by simp⟩
theorem sA (w:World) (ty:TypeId) (t:ByteArray):Mod [] w (Lib.bytesWorld w ty t):=Mod.dy (Lib.bytesWorld_below w ty t) (Nat.le_refl _)
theorem cK (a b c:Int) (w:World):Calls Tryz.prog 107 #[.int .i64 a, .int .i64 b, .int .i64 c] w fun e w'=>e= .returned (.bool (decide (a≥b)&&decide (a≤c)))∧w'=w:=by
 by_cases h1:a≥b
 ·go_enter Tryz.func107,Tryz.ntmps107
  go_wp2
  go_ret
  simp [h1]
 ·go_enter Tryz.func107,Tryz.ntmps107
  go_wp2
  go_ret
  simp;intro h;omega
def H5 (s:Ah) (lo hi:Int):Int × Bool:=match Lib.atoiAll s with
 | .ok n=>if lo≤n∧n≤hi∧Lib.itoa n=s then(n,true)else(0,false)
 |_=>(0,false)
theorem uJ {s:ByteArray} {w:World} (hs:s.size≤281474976710656) (hK:Ey.K w) (h: ∀v,Lib.atoiAll s.data.toList≠ .ok v):
  Calls Tryz.prog 271 #[.string s] w fun e w'=> ∃v te N,e= .returned (.tuple #[.int .i64 v, .iface te (.pointer (some ⟨N,0,none⟩))])∧Mod [] w w':=by
 obtain⟨⟨t1,p1,k1⟩,⟨t2,p2,k2⟩,_⟩:=hK;rcases hA:Lib.atoiAll s.data.toList with v|_|_
 ·exact absurd hA (h v)
 ·exact(Any.strconv_Atoi_syntax_var Tryz.ee s hs hA t1 p1 w k1).mono fun e w' ⟨N,he,_,_,hB⟩=>⟨_,_,_,he,Mod.dy hB (Nat.le_refl _)⟩
 ·exact(Any.strconv_Atoi_range_var Tryz.ee s hs hA t2 p2 w k2).mono fun e w' ⟨N,he,_,_,hB⟩=>⟨_,_,_,he,Mod.dy hB (Nat.le_refl _)⟩
theorem rV {s:ByteArray} {lo hi:Int} {w:World} (hc:Calls Tryz.prog 271 #[.string s] w fun e w'=> ∃v te N,e= .returned (.tuple #[.int .i64 v, .iface te (.pointer (some ⟨N,0,none⟩))])∧Mod [] w w'):
  Calls Tryz.prog 231 #[.string s, .int .i64 lo, .int .i64 hi] w fun e w'=>e= .returned (.tuple #[.int .i64 0, .bool false])∧Mod [] w w':=by
 go_enter Tryz.func231,Tryz.ntmps231
 go_wp2_with (go_at_call 271;refine hc.mono ?_;rintro e w' ⟨v,te,N,rfl,hm⟩)
 go_ret2
 exact⟨rfl,hm⟩
section
variable (s:ByteArray) (n lo hi:Int) (w:World)
def NB:Prop:=Calls Tryz.prog 271 #[.string s] w fun e w'=>e= .returned (.tuple #[.int .i64 n, .nilIface])∧Mod [] w w'
theorem tC (hA:NB s n w) (hw: ∀W,Calls Tryz.prog 107 #[.int .i64 n, .int .i64 lo, .int .i64 hi] W fun e w'=>e= .returned (.bool false)∧w'=W):
  Calls Tryz.prog 231 #[.string s, .int .i64 lo, .int .i64 hi] w fun e w'=>e= .returned (.tuple #[.int .i64 0, .bool false])∧Mod [] w w':=by
 unfold NB at hA
 go_enter Tryz.func231,Tryz.ntmps231
 go_wp2_with (first|(go_at_call 271;refine hA.mono ?_;rintro e W1 ⟨rfl,hm⟩)|(go_at_call 107;refine(hw _).mono ?_;rintro e W2 ⟨rfl,rfl⟩))
 go_ret2
 exact⟨rfl,hm⟩
theorem pV (q:ByteArray) (hq:(q.toList==s.toList)=false) (hA:NB s n w) (hw: ∀W,Calls Tryz.prog 107 #[.int .i64 n, .int .i64 lo, .int .i64 hi] W fun e w'=>e= .returned (.bool true)∧w'=W)
  (hI: ∀W1,Mod [] w W1→Calls Tryz.prog 183 #[.int .i64 n] W1 fun e w'=>e= .returned (.string q)∧Mod [] w w'):
  Calls Tryz.prog 231 #[.string s, .int .i64 lo, .int .i64 hi] w fun e w'=>e= .returned (.tuple #[.int .i64 0, .bool false])∧Mod [] w w':=by
 unfold NB at hA
 go_enter Tryz.func231,Tryz.ntmps231
 go_wp2_with (first|(go_at_call 271;refine hA.mono ?_;rintro e W1 ⟨rfl,hm⟩)|(go_at_call 107;refine(hw _).mono ?_;rintro e W2 ⟨rfl,rfl⟩)|(go_at_call 183;refine(hI _ hm).mono ?_;rintro e W3 ⟨rfl,Ml⟩))
 go_ret2
 exact⟨rfl,Ml⟩
theorem rU (hA:NB s n w) (hw: ∀W,Calls Tryz.prog 107 #[.int .i64 n, .int .i64 lo, .int .i64 hi] W fun e w'=>e= .returned (.bool true)∧w'=W)
  (hI: ∀W1,Mod [] w W1→Calls Tryz.prog 183 #[.int .i64 n] W1 fun e w'=>e= .returned (.string s)∧Mod [] w w'):
  Calls Tryz.prog 231 #[.string s, .int .i64 lo, .int .i64 hi] w fun e w'=>e= .returned (.tuple #[.int .i64 n, .bool true])∧Mod [] w w':=by
 unfold NB at hA
 go_enter Tryz.func231,Tryz.ntmps231
 go_wp2_with (first|(go_at_call 271;refine hA.mono ?_;rintro e W1 ⟨rfl,hm⟩)|(go_at_call 107;refine(hw _).mono ?_;rintro e W2 ⟨rfl,rfl⟩)|(go_at_call 183;refine(hI _ hm).mono ?_;rintro e W3 ⟨rfl,Ml⟩))
 go_ret2
 exact⟨rfl,Ml⟩
end
theorem sI (s:ByteArray) (lo hi:Int) (w:World) (hs:s.size≤281474976710656) (hN:Ey.n≤w.heap.size) (hK:Ey.K w):Calls Tryz.prog 231 #[.string s, .int .i64 lo, .int .i64 hi] w fun e w'=>e= .returned (.tuple #[.int .i64 (H5 s.data.toList lo hi).1, .bool (H5 s.data.toList lo hi).2])∧Mod [] w w':=by
 by_cases Au: ∃n,Lib.atoiAll s.data.toList= .ok n
 ·obtain⟨n,hA⟩:=Au;have hR:H5 s.data.toList lo hi=if lo≤n∧n≤hi∧Lib.itoa n=s.data.toList then(n,true)else(0,false):=by
   unfold H5;rw [hA]
  rw [hR];obtain⟨b0,b1⟩:=Lib.atoiAll_bounds hA;have TA:Calls Tryz.prog 271 #[.string s] w fun e w'=>e= .returned (.tuple #[.int .i64 n, .nilIface])∧Mod [] w w':=by
   refine(Tryz.strconv_Atoi_ok s (by omega) n hA w).mono ?_;rintro e w' ⟨rfl,h|⟨t,h⟩⟩
   ·subst h;exact⟨rfl,Mod.refl _ _⟩
   ·subst h;exact⟨rfl,sA w _ t⟩
  have hI: ∀W1,Mod [] w W1→Calls Tryz.prog 183 #[.int .i64 n] W1 fun e w'=>e= .returned (.string ⟨(Lib.itoa n).toArray⟩)∧Mod [] w w':=by intro W1 hm;have TE:Ey.K W1:=Ey.mono (fun b hb=>hm.block b (Nat.lt_of_lt_of_le hb hN) (by simp)) hK;refine(Tryz.strconv_Itoa n b0 b1 W1 (cA TE)).mono ?_;rintro e w' ⟨rfl,k,os,rfl⟩;exact⟨rfl,hm.trans (dH W1 k os) (by simp)⟩
  by_cases h1:n≥lo∧n≤hi
  ·have hw: ∀W,Calls Tryz.prog 107 #[.int .i64 n, .int .i64 lo, .int .i64 hi] W fun e w'=>e= .returned (.bool true)∧w'=W:=fun W=>by
    have:=cK n lo hi W;rwa [show(decide (n≥lo)&&decide (n≤hi))=true by simp [h1.1,h1.2]]at this
   by_cases h3:Lib.itoa n=s.data.toList
   ·have E4:(⟨(Lib.itoa n).toArray⟩:ByteArray)=s:=by rw [h3]
    rw [E4]at hI;simp only [if_pos (⟨h1.1,h1.2,h3⟩:lo≤n∧n≤hi∧Lib.itoa n=s.data.toList)];exact rU s n lo hi w TA hw hI
   ·have E4:((⟨(Lib.itoa n).toArray⟩:ByteArray).toList==s.toList)=false:=by
     rw [Zp,beq_eq_false_iff_ne];exact h3
    simp only [if_neg (fun h:lo≤n∧n≤hi∧Lib.itoa n=s.data.toList=>h3 h.2.2)];exact pV s n lo hi w _ E4 TA hw hI
  ·have hw: ∀W,Calls Tryz.prog 107 #[.int .i64 n, .int .i64 lo, .int .i64 hi] W fun e w'=>e= .returned (.bool false)∧w'=W:=fun W=>by
    have:=cK n lo hi W;rwa [show(decide (n≥lo)&&decide (n≤hi))=false by simp;omega]at this
   simp only [if_neg (fun h:lo≤n∧n≤hi∧Lib.itoa n=s.data.toList=>h1 ⟨h.1,h.2.1⟩)];exact tC s n lo hi w TA hw
 ·have hR:H5 s.data.toList lo hi=(0,false):=by
   unfold H5;split
   ·rename_i n hn;exact absurd ⟨n,hn⟩ Au
   ·rfl
  rw [hR];exact rV (uJ hs hK fun v hv=>Au ⟨v,hv⟩)
def RP (s:Ah) (lo hi:Int):Option (Int × Bool):=req (s.length≤281474976710656) (some (H5 s lo hi))
theorem mX (a0:Ah) (a1 a2:Int) (r:Int × Bool) (h:RP a0 a1 a2=some r):Cd Tryz.prog Cb 231 [.str a0, .int .i64 a1, .int .i64 a2] (.tup [.int .i64 r.1, .bool r.2]):=by
 obtain⟨hl,h⟩:=Gv h;refine uA (by kernel_rfl) fun w vs rf hN hK hr=> ?_;obtain⟨s,us,rfl,hs,hz,hr⟩:=fL hr;obtain⟨us1,rfl,_,hr⟩:=Qf hr;obtain⟨us2,rfl,_,hr⟩:=Qf hr;obtain⟨rfl,rfl⟩:=S4 hr;subst hs;cases h;refine(sI s a1 a2 w (by simpa using hl) hN hK).mono ?_;rintro e w' ⟨rfl,hm⟩;refine⟨hm,_,_, [], [],rfl, .int ?_ .nil, .bool .nil,by simp⟩;unfold H5;split
 ·rename_i n hn;have:=Lib.atoiAll_bounds hn;split
  ·exact B0 this.1 this.2
  ·exact B0 (by decide) (by decide)
 ·exact B0 (by decide) (by decide)
end Go.Proofs.YtollgpkegmbpmaaGreatDoor
end
noncomputable section
namespace Go.Proofs.YtollgpkegmbpmaaGreatDoor
open Go.RowKit Go.Sort
set_option maxRecDepth 100000

end Go.Proofs.YtollgpkegmbpmaaGreatDoor
end
noncomputable section
namespace Go.Proofs.YtollgpkegmbpmaaGreatDoor
open Go.RowKit
set_option maxRecDepth 100000
def Wm (a0 a1:List Int):Option (Bool):=
 some ((decide ((a0.length:Int)>1048576))||(decide ((a1.length:Int)>(IntKind.i64.wrap ((1048576:Int)-(a0.length:Int))))))
def Pe (a0:AE):Option (Int × AE):=
 if(decide (a0.cf<(a0.ao.length:Int)))then
  (getI a0.ao a0.cf).bind fun y1=>
  if(decide ((IntKind.i64.wrap (a0.cf+1))≤(a0.ao.length:Int)))then
   some ((IntKind.i64.wrap y1),(⟨a0.ao,(IntKind.i64.wrap (a0.cf+1)),(IntKind.u64.wrap ((IntKind.u64.wrap ((IntKind.u64.wrap (a0.aq*6364136223846793005))+(IntKind.u64.wrap (IntKind.i64.wrap y1))))+1442695040888963407))⟩:AE))
  else
   some ((IntKind.i64.wrap (IntKind.u64.wrap ((BitVec.ofInt (IntKind.bits .u64) (Int.fdiv (IntKind.u64.wrap ((IntKind.u64.wrap ((IntKind.u64.wrap (a0.aq*6364136223846793005))+(IntKind.u64.wrap (IntKind.i64.wrap y1))))+1442695040888963407)) (2^(min ((40:Int)).toNat (IntKind.bits .u64))))&&&BitVec.ofInt (IntKind.bits .u64) 255).toNat:Int))),(⟨a0.ao,(IntKind.i64.wrap (a0.cf+1)),(IntKind.u64.wrap ((IntKind.u64.wrap ((IntKind.u64.wrap (a0.aq*6364136223846793005))+(IntKind.u64.wrap (IntKind.i64.wrap y1))))+1442695040888963407))⟩:AE))
 else
  if(decide ((IntKind.i64.wrap (a0.cf+1))≤(a0.ao.length:Int)))then
   some (0,(⟨a0.ao,(IntKind.i64.wrap (a0.cf+1)),(IntKind.u64.wrap ((IntKind.u64.wrap ((IntKind.u64.wrap (a0.aq*6364136223846793005))+(IntKind.u64.wrap 0)))+1442695040888963407))⟩:AE))
  else
   some ((IntKind.i64.wrap (IntKind.u64.wrap ((BitVec.ofInt (IntKind.bits .u64) (Int.fdiv (IntKind.u64.wrap ((IntKind.u64.wrap ((IntKind.u64.wrap (a0.aq*6364136223846793005))+(IntKind.u64.wrap 0)))+1442695040888963407)) (2^(min ((40:Int)).toNat (IntKind.bits .u64))))&&&BitVec.ofInt (IntKind.bits .u64) 255).toNat:Int))),(⟨a0.ao,(IntKind.i64.wrap (a0.cf+1)),(IntKind.u64.wrap ((IntKind.u64.wrap ((IntKind.u64.wrap (a0.aq*6364136223846793005))+(IntKind.u64.wrap 0)))+1442695040888963407))⟩:AE))
def FT (a0:AE) (a1:Int):Option (Int × AE):=
 if(decide (a1≤1))then
  some (0,a0)
 else
  (Pe a0).bind fun v1=>
  if(decide (a1>200))then
   (Pe v1.2).bind fun v2=>
   req (a1≠0)<|
   some ((Int.tmod (IntKind.i64.wrap ((IntKind.i64.wrap (v1.1*256))+v2.1)) a1),(⟨v2.2.ao,v2.2.cf,v2.2.aq⟩:AE))
  else
   req (a1≠0)<|
   some ((Int.tmod v1.1 a1),(⟨v1.2.ao,v1.2.cf,v1.2.aq⟩:AE))
def Kd (a0:AE) (a1:List (Ah)):Option (Ah × AE):=
 (FT a0 (a1.length:Int)).bind fun v1=>
 (getI a1 v1.1).bind fun y2=>
 some (y2,v1.2)
def RF (a0:AE):Option (Ah × AE):=
 (Kd a0 ([([97]:Ah),([98]:Ah),([99]:Ah),([109]:Ah),([110]:Ah),([122]:Ah),([114,47,49]:Ah),([105,47,120,47,49]:Ah)]:List (Ah))).bind fun v1=>
 some (v1.1,v1.2)
def Pc (a0:AE):Option (Ah × AE):=
 (Kd a0 ([([]:Ah),([49]:Ah),([55]:Ah),([49,48]:Ah),([45,51]:Ah),([120]:Ah),([97,44,98,95,99]:Ah)]:List (Ah))).bind fun v1=>
 some (v1.1,v1.2)
def Ln (a0:AE) (a1:List Int):Option (Int × AE):=
 (FT a0 (a1.length:Int)).bind fun v1=>
 (getI a1 v1.1).bind fun y2=>
 some (y2,v1.2)
def Ro (v1:Int × AE) (v2:Ah × AE) (v3:Bool):Option (Ap × AE):=
 if v3 then
  (Pc v2.2).bind fun v4=>
  some ((⟨(IntKind.i64.wrap ((1:Int)+v1.1)),v2.1,v4.1,0⟩:Ap),(⟨v4.2.ao,v4.2.cf,v4.2.aq⟩:AE))
 else
  if((IntKind.i64.wrap ((1:Int)+v1.1))==4)then
   if((IntKind.i64.wrap ((1:Int)+v1.1))==4)then
    (Ln v2.2 ([1,2,5,(-3),0,100]:List Int)).bind fun v5=>
    some ((⟨(IntKind.i64.wrap ((1:Int)+v1.1)),v2.1,([]:Ah),v5.1⟩:Ap),(⟨v5.2.ao,v5.2.cf,v5.2.aq⟩:AE))
   else
    some ((⟨(IntKind.i64.wrap ((1:Int)+v1.1)),v2.1,([]:Ah),0⟩:Ap),(⟨v2.2.ao,v2.2.cf,v2.2.aq⟩:AE))
  else
   if((IntKind.i64.wrap ((1:Int)+v1.1))==5)then
    (Ln v2.2 ([1,2,5,(-3),0,100]:List Int)).bind fun v6=>
    some ((⟨(IntKind.i64.wrap ((1:Int)+v1.1)),v2.1,([]:Ah),v6.1⟩:Ap),(⟨v6.2.ao,v6.2.cf,v6.2.aq⟩:AE))
   else
    some ((⟨(IntKind.i64.wrap ((1:Int)+v1.1)),v2.1,([]:Ah),0⟩:Ap),(⟨v2.2.ao,v2.2.cf,v2.2.aq⟩:AE))
def Pd (a0:AE):Option (Ap × AE):=
 (FT a0 7).bind fun v1=>
 (RF v1.2).bind fun v2=>
 if((IntKind.i64.wrap ((1:Int)+v1.1))==2)then
  Ro v1 v2 ((IntKind.i64.wrap ((1:Int)+v1.1))==2)
 else
  Ro v1 v2 ((IntKind.i64.wrap ((1:Int)+v1.1))==7)
def I8 (a0:AE) (a1:Int):Option (Bool × AE):=
 (FT a0 a1).bind fun v1=>
 some ((v1.1==0),v1.2)
def YS (v2:List Ap) (v3:Int) (v4:List Int) (v5 v6:Int):Option ((List Ap × Int × List Int × Int × Int) ⊕ Option (List Ap × AE)):=
 if(decide (v3>0))then
  (Pd (⟨v4,v5,v6⟩:AE)).bind fun v7=>
  if(((v7.1.ae==5)||(v7.1.ae==6))||(v7.1.ae==7))then
   (I8 v7.2 3).bind fun v8=>
   if(!v8.1)then
    (FT (⟨v8.2.ao,v8.2.cf,v8.2.aq⟩:AE) 5).bind fun v9=>
    req ((((v2).length:Int)+(([(⟨4,v7.1.ab,([]:Ah),(IntKind.i64.wrap ((1:Int)+v9.1))⟩:Ap)]:List Ap).length:Int))*48≤140737488355328∧((v2).length:Int)+(([(⟨4,v7.1.ab,([]:Ah),(IntKind.i64.wrap ((1:Int)+v9.1))⟩:Ap)]:List Ap).length:Int)≤140737488355328)<|
    some (.inl ((v2++ [(⟨4,v7.1.ab,([]:Ah),(IntKind.i64.wrap ((1:Int)+v9.1))⟩:Ap)]),(IntKind.i64.wrap (v3-1)),v9.2.ao,v9.2.cf,v9.2.aq))
   else
    req ((((v2).length:Int)+(([(⟨v7.1.ae,v7.1.ab,v7.1.al,v7.1.cd⟩:Ap)]:List Ap).length:Int))*48≤140737488355328∧((v2).length:Int)+(([(⟨v7.1.ae,v7.1.ab,v7.1.al,v7.1.cd⟩:Ap)]:List Ap).length:Int)≤140737488355328)<|
    some (.inl ((v2++ [(⟨v7.1.ae,v7.1.ab,v7.1.al,v7.1.cd⟩:Ap)]),(IntKind.i64.wrap (v3-1)),v8.2.ao,v8.2.cf,v8.2.aq))
  else
   if false then
    (FT (⟨v7.2.ao,v7.2.cf,v7.2.aq⟩:AE) 5).bind fun v10=>
    req ((((v2).length:Int)+(([(⟨4,v7.1.ab,([]:Ah),(IntKind.i64.wrap ((1:Int)+v10.1))⟩:Ap)]:List Ap).length:Int))*48≤140737488355328∧((v2).length:Int)+(([(⟨4,v7.1.ab,([]:Ah),(IntKind.i64.wrap ((1:Int)+v10.1))⟩:Ap)]:List Ap).length:Int)≤140737488355328)<|
    some (.inl ((v2++ [(⟨4,v7.1.ab,([]:Ah),(IntKind.i64.wrap ((1:Int)+v10.1))⟩:Ap)]),(IntKind.i64.wrap (v3-1)),v10.2.ao,v10.2.cf,v10.2.aq))
   else
    req ((((v2).length:Int)+(([(⟨v7.1.ae,v7.1.ab,v7.1.al,v7.1.cd⟩:Ap)]:List Ap).length:Int))*48≤140737488355328∧((v2).length:Int)+(([(⟨v7.1.ae,v7.1.ab,v7.1.al,v7.1.cd⟩:Ap)]:List Ap).length:Int)≤140737488355328)<|
    some (.inl ((v2++ [(⟨v7.1.ae,v7.1.ab,v7.1.al,v7.1.cd⟩:Ap)]),(IntKind.i64.wrap (v3-1)),v7.2.ao,v7.2.cf,v7.2.aq))
 else
  some (.inr (some (v2,(⟨v4,v5,v6⟩:AE))))
def Pb (a0:AE):Option (List Ap × AE):=
 (FT a0 4).bind fun v1=>
 A5 (fun s:List Ap × Int × List Int × Int × Int=>YS s.1 s.2.1 s.2.2.1 s.2.2.2.1 s.2.2.2.2) ([],(IntKind.i64.wrap ((1:Int)+v1.1)),v1.2.ao,v1.2.cf,v1.2.aq)
def lN (v9:List Int) (v10 v11:Int) (v12:List Ap):Option (List Ap × AE):=
 some (v12,(⟨v9,v10,v11⟩:AE))
def YQ (v13:List Int) (v14 v15:Int) (v16:List Ap):Option ((List Int × Int × Int × List Ap) ⊕ Option (List Ap × AE)):=
 (FT (⟨v13,v14,v15⟩:AE) 2).bind fun v17=>
 if(decide ((v16.length:Int)<(IntKind.i64.wrap ((8:Int)+v17.1))))then
  (Pd v17.2).bind fun v18=>
  req ((((v16).length:Int)+(([v18.1]:List Ap).length:Int))*48≤140737488355328∧((v16).length:Int)+(([v18.1]:List Ap).length:Int)≤140737488355328)<|
  some (.inl (v18.2.ao,v18.2.cf,v18.2.aq,(v16++ [v18.1])))
 else
  some (.inr (lN v17.2.ao v17.2.cf v17.2.aq v16))
def Rn (a0:AE):Option (List Ap × AE):=
 (Pb a0).bind fun v1=>
 (FT v1.2 (v1.1.length:Int)).bind fun v2=>
 (FT v2.2 25).bind fun v3=>
 if(v3.1==0)then
  (Ln v3.2 ([0,8]:List Int)).bind fun v4=>
  (getI v1.1 v2.1).bind fun y5=>
  some ((v1.1.set (v2.1).toNat {y5 with ae:=v4.1}),(⟨v4.2.ao,v4.2.cf,v4.2.aq⟩:AE))
 else
  if(v3.1==1)then
   (Ln v3.2 ([9999,10000,(-10000)]:List Int)).bind fun v6=>
   (getI v1.1 v2.1).bind fun y7=>
   some ((v1.1.set (v2.1).toNat {y7 with cd:=v6.1}),(⟨v6.2.ao,v6.2.cf,v6.2.aq⟩:AE))
  else
   if(v3.1==2)then
    (getI v1.1 v2.1).bind fun y8=>
    some ((v1.1.set (v2.1).toNat {y8 with ab:=([65]:Ah)}),(⟨v3.2.ao,v3.2.cf,v3.2.aq⟩:AE))
   else
    if(v3.1==3)then
     A5 (fun s:List Int × Int × Int × List Ap=>YQ s.1 s.2.1 s.2.2.1 s.2.2.2) (v3.2.ao,v3.2.cf,v3.2.aq,v1.1)
    else
     some (v1.1,(⟨v3.2.ao,v3.2.cf,v3.2.aq⟩:AE))
def YV (v1:List Int) (v2 v3:Int) (v4:List Aa):Option (List Aa × AE):=
 if(decide ((v4.length:Int)>0))then
  (I8 (⟨v1,v2,v3⟩:AE) 30).bind fun v5=>
  if v5.1 then
   (getI v4 0).bind fun y6=>
   some ((v4.set ((0:Int)).toNat {y6 with ar:=true}),(⟨v5.2.ao,v5.2.cf,v5.2.aq⟩:AE))
  else
   some (v4,(⟨v5.2.ao,v5.2.cf,v5.2.aq⟩:AE))
 else
  if false then
   (getI v4 0).bind fun y7=>
   some ((v4.set ((0:Int)).toNat {y7 with ar:=true}),(⟨v1,v2,v3⟩:AE))
  else
   some (v4,(⟨v1,v2,v3⟩:AE))
def YW (v8:List Aa) (v9:Int) (v10:List Int) (v11 v12:Int):Option ((List Aa × Int × List Int × Int × Int) ⊕ Option (List Aa × AE)):=
 if(decide (v9<([([97]:Ah),([98]:Ah),([99]:Ah),([109]:Ah),([110]:Ah),([122]:Ah)].length:Int)))then
  (getI [([97]:Ah),([98]:Ah),([99]:Ah),([109]:Ah),([110]:Ah),([122]:Ah)] v9).bind fun y13=>
  (I8 (⟨v10,v11,v12⟩:AE) 3).bind fun v14=>
  if(!v14.1)then
   (Kd v14.2 ([([49]:Ah),([55]:Ah),([49,48]:Ah),([45,51]:Ah),([120]:Ah),([57,57,57,57,57,57]:Ah)]:List (Ah))).bind fun v15=>
   req ((((v8).length:Int)+(([(⟨y13,v15.1,false⟩:Aa)]:List Aa).length:Int))*40≤140737488355328∧((v8).length:Int)+(([(⟨y13,v15.1,false⟩:Aa)]:List Aa).length:Int)≤140737488355328)<|
   some (.inl ((v8++ [(⟨y13,v15.1,false⟩:Aa)]),(IntKind.i64.wrap (v9+1)),v15.2.ao,v15.2.cf,v15.2.aq))
  else
   some (.inl (v8,(IntKind.i64.wrap (v9+1)),v14.2.ao,v14.2.cf,v14.2.aq))
 else
  some (.inr (YV v10 v11 v12 v8))
def Mx (a0:AE):Option (List Aa × AE):=
 A5 (fun s:List Aa × Int × List Int × Int × Int=>YW s.1 s.2.1 s.2.2.1 s.2.2.2.1 s.2.2.2.2) ([],0,a0.ao,a0.cf,a0.aq)
def YT (v2:List Int) (v3 v4:Int) (v5:List (List Ap)):Option (List Aa × List (List Ap)):=
 (I8 (⟨v2,v3,v4⟩:AE) 10).bind fun v6=>
 if v6.1 then
  (Rn v6.2).bind fun v7=>
  req ((((v5).length:Int)+(([v7.1]:List (List Ap)).length:Int))*24≤140737488355328∧((v5).length:Int)+(([v7.1]:List (List Ap)).length:Int)≤140737488355328)<|
  (Mx (⟨v7.2.ao,v7.2.cf,v7.2.aq⟩:AE)).bind fun v8=>
  some (v8.1,(v5++ [v7.1]))
 else
  (Mx (⟨v6.2.ao,v6.2.cf,v6.2.aq⟩:AE)).bind fun v9=>
  some (v9.1,v5)
def YU (v10:List (List Ap)) (v11:Int) (v12:List Int) (v13 v14:Int):Option ((List (List Ap) × Int × List Int × Int × Int) ⊕ Option (List Aa × List (List Ap))):=
 if(decide (v11>0))then
  (Pb (⟨v12,v13,v14⟩:AE)).bind fun v15=>
  req ((((v10).length:Int)+(([v15.1]:List (List Ap)).length:Int))*24≤140737488355328∧((v10).length:Int)+(([v15.1]:List (List Ap)).length:Int)≤140737488355328)<|
  some (.inl ((v10++ [v15.1]),(IntKind.i64.wrap (v11-1)),v15.2.ao,v15.2.cf,v15.2.aq))
 else
  some (.inr (YT v12 v13 v14 v10))
def Rr (a0:List Int):Option (List Aa × List (List Ap)):=
 (FT (⟨a0,0,0⟩:AE) 4).bind fun v1=>
 A5 (fun s:List (List Ap) × Int × List Int × Int × Int=>YU s.1 s.2.1 s.2.2.1 s.2.2.2.1 s.2.2.2.2) ([],v1.1,v1.2.ao,v1.2.cf,v1.2.aq)
def MG (a0:List Aa) (v1:Int) (v2:List (Ah)):Option ((Int × List (Ah)) ⊕ Option (List (Ah))):=
 if(decide (v1<(a0.length:Int)))then
  (getI a0 v1).bind fun y3=>
  req ((((v2).length:Int)+(([y3.ab]:List (Ah)).length:Int))*16≤140737488355328∧((v2).length:Int)+(([y3.ab]:List (Ah)).length:Int)≤140737488355328)<|
  some (.inl ((IntKind.i64.wrap (v1+1)),(v2++ [y3.ab])))
 else
  some (.inr (some v2))
def Ry (a0:List Aa):Option (List (Ah)):=
 A5 (fun s:Int × List (Ah)=>MG a0 s.1 s.2) (0, [])
def LA (a0 a1 a2:Int):Option (Bool):=
 some ((decide (a0≥a1))&&(decide (a0≤a2)))
def Vs (a0:Int):Option (Bool):=
 some (((decide (a0≥97))&&(decide (a0≤122)))||((decide (a0≥48))&&(decide (a0≤57))))
def Vw (a0:Ah) (a1:Int):Option (Int):=
 (Rk a0 a1).bind fun v1=>
 some v1
def Vz (a0 a1:Ah) (v1:Int):Option ((Int) ⊕ Option (Bool)):=
 if(decide (v1<(a0.length:Int)))then
  (getI a0 v1).bind fun y2=>
  (Vs (y2.toNat:Int)).bind fun v3=>
  if v3 then
   some (.inl (IntKind.i64.wrap (v1+1)))
  else
   (Vw a1 (y2.toNat:Int)).bind fun v4=>
   if(decide (v4<0))then
    some (.inr (some false))
   else
    some (.inl (IntKind.i64.wrap (v1+1)))
 else
  some (.inr (some true))
def Pl (a0 a1:Ah):Option (Bool):=
 A5 (fun s:Int=>Vz a0 a1 s) 0
def Pn (a0:Ah):Option (Bool):=
 (LA (a0.length:Int) 1 12).bind fun v1=>
 if v1 then
  (Pl a0 ([46,47]:Ah)).bind fun v2=>
  some v2
 else
  some false
def Vr (a0:List (Ah)) (v1:Int):Option ((Int) ⊕ Option (Bool)):=
 if(decide (v1<(a0.length:Int)))then
  (getI a0 v1).bind fun y2=>
  (Pn y2).bind fun v3=>
  if(decide (v1>0))then
   if v3 then
    (getI a0 (IntKind.i64.wrap (v1-1))).bind fun y4=>
    if(Op.bytesLess y2 y4||y2==y4)then
     some (.inr (some false))
    else
     some (.inl (IntKind.i64.wrap (v1+1)))
   else
    some (.inr (some false))
  else
   if((!v3)||false)then
    some (.inr (some false))
   else
    some (.inl (IntKind.i64.wrap (v1+1)))
 else
  some (.inr (some true))
def Rz (a0:List (Ah)):Option (Bool):=
 A5 (fun s:Int=>Vr a0 s) 0
def Pm (a0:Ah):Option (Bool):=
 if(decide ((a0.length:Int)≤24))then
  (Pl a0 ([46,45,44,95]:Ah)).bind fun v1=>
  some v1
 else
  some false
def R0 (a0:Ah) (a1:Bool):Option (Bool):=
 (Pm a0).bind fun v1=>
 some (v1&&(!(a1&&(a0 !=([]:Ah)))))
def Rl (a0:Aa):Option (Bool):=
 (R0 a0.al a0.ar).bind fun v1=>
 some (!v1)
def O8 (a0:List Aa):Option (Bool):=
 if(decide ((a0.length:Int)≤24))then
  (Ry a0).bind fun v1=>
  (Rz v1).bind fun v2=>
  if v2 then
   (Gg a0 (fun y0_=>Rl y0_)).bind fun v3=>
   some (!v3)
  else
   some false
 else
  some false
def R3 (a0:Aa):Option (Bool):=
 some a0.ar
def MM (a0:List Aa):Option (Bool):=
 (O8 a0).bind fun v1=>
 if v1 then
  (Gg a0 (fun y0_=>R3 y0_)).bind fun v2=>
  some (!v2)
 else
  some false
def VR (a0:Int):Option (Bool):=
 some ((a0==2)||(a0==7))
def R7 (a0:Int):Option (Bool):=
 some ((a0==4)||(a0==5))
def Sc (a0:Ap):Option (Bool):=
 (LA a0.ae 1 7).bind fun v1=>
 if v1 then
  (Pn a0.ab).bind fun v2=>
  if v2 then
   (Pm a0.al).bind fun v3=>
   if v3 then
    (VR a0.ae).bind fun v4=>
    if v4 then
     (LA a0.cd (-9999) 9999).bind fun v5=>
     if v5 then
      (R7 a0.ae).bind fun v6=>
      some (v6||(a0.cd==0))
     else
      some false
    else
     if(a0.al==([]:Ah))then
      (LA a0.cd (-9999) 9999).bind fun v7=>
      if v7 then
       (R7 a0.ae).bind fun v8=>
       some (v8||(a0.cd==0))
      else
       some false
     else
      some false
   else
    some false
  else
   some false
 else
  some false
def Rv (a0:Ap):Option (Bool):=
 (Sc a0).bind fun v1=>
 some (!v1)
def Pp (a0:List Ap):Option (Bool):=
 if(decide ((a0.length:Int)≤8))then
  (Gg a0 (fun y0_=>Rv y0_)).bind fun v1=>
  some (!v1)
 else
  some false
def RG (a0:List Ap):Option (Bool):=
 (Pp a0).bind fun v1=>
 some (!v1)
def MA (xs:List Aa):Option (List Aa):=Xn 40 xs
def Vp (a0:List Aa) (a1:Ah) (a2:Aa→(Ah)→Option Int) (v1:Int):Option (Int × Bool):=
 if(decide (v1<(a0.length:Int)))then
  (getI a0 v1).bind fun y2=>
  (a2 y2 a1).bind fun v3=>
  some (v1,(v3==0))
 else
  some (v1,false)
def Mz (a0:List Aa) (a1:Ah) (a2:Aa→(Ah)→Option Int) (v4 v5:Int):Option ((Int × Int) ⊕ Option (Int × Bool)):=
 if(decide (v4<v5))then
  (getI a0 (IntKind.i64.wrap (Int.fdiv (IntKind.u64.wrap (IntKind.i64.wrap (v4+v5))) (2^(min ((1:Int)).toNat (IntKind.bits .u64)))))).bind fun y6=>
  (a2 y6 a1).bind fun v7=>
  if(decide (v7<0))then
   some (.inl ((IntKind.i64.wrap ((IntKind.i64.wrap (Int.fdiv (IntKind.u64.wrap (IntKind.i64.wrap (v4+v5))) (2^(min ((1:Int)).toNat (IntKind.bits .u64)))))+1)),v5))
  else
   some (.inl (v4,(IntKind.i64.wrap (Int.fdiv (IntKind.u64.wrap (IntKind.i64.wrap (v4+v5))) (2^(min ((1:Int)).toNat (IntKind.bits .u64)))))))
 else
  some (.inr (Vp a0 a1 a2 v4))
def Vq (a0:List Aa) (a1:Ah) (a2:Aa→(Ah)→Option Int):Option (Int × Bool):=
 A5 (fun s:Int × Int=>Mz a0 a1 a2 s.1 s.2) (0,(a0.length:Int))
def Ph (a0:Ah):Option (Bool):=
 some (a0 !=a0)
def Rp (a0 a1:Ah):Option (Int):=
 (Ph a0).bind fun v1=>
 (Ph a1).bind fun v2=>
 if v1 then
  if v2 then
   some 0
  else
   some (-1)
 else
  if v2 then
   some 1
  else
   if(Op.bytesLess a0 a1)then
    some (-1)
   else
    if(!(Op.bytesLess a0 a1||a0==a1))then
     some 1
    else
     some 0
def MI (a0:Aa) (a1:Ah):Option (Int):=
 (Rp a0.ab a1).bind fun v1=>
 some v1
def Ka (a0:List Aa) (a1:Ah):Option (Int × Bool):=
 (Vq a0 a1 (fun y0_ y1_=>MI y0_ y1_)).bind fun v1=>
 some (v1.1,v1.2)
def Lq (a0:List Aa) (a1:Aa):Option (List Aa):=
 (Ka a0 a1.ab).bind fun v1=>
 if v1.2 then
  (getI a0 v1.1).bind fun y2=>
  some (a0.set (v1.1).toNat a1)
 else
  (SN a0 v1.1 ([a1]:List Aa)).bind fun v3=>
  some v3
def MK (a0:Ah) (a2:List A9) (v3:Int):Option ((Int) ⊕ Option (Ah × Bool × Bool)):=
 if(decide (v3<(a2.length:Int)))then
  (getI a2 v3).bind fun y4=>
  if(y4.ab==a0)then
   some (.inr (some (y4.al,y4.c7,true)))
  else
   some (.inl (IntKind.i64.wrap (v3+1)))
 else
  some (.inr (some (([]:Ah),false,false)))
def RW (a0:Ah) (a1:List Aa) (a2:List A9):Option (Ah × Bool × Bool):=
 (Ka a1 a0).bind fun v1=>
 if v1.2 then
  (getI a1 v1.1).bind fun y2=>
  some (y2.al,(!y2.ar),true)
 else
  A5 (fun s:Int=>MK a0 a2 s) 0
def Pk (a0:Ah):Option (Int × Bool):=
 (RP a0 (-999999) 999999).bind fun v1=>
 some (v1.1,v1.2)
def RB (a0:Ap) (a1:Ah) (a2:Bool):Option (Bool):=
 (Pk a1).bind fun v1=>
 if(a0.ae==4)then
  if v1.2 then
   if a2 then
    (LA (IntKind.i64.wrap (v1.1+a0.cd)) (-999999) 999999).bind fun v2=>
    some v2
   else
    some true
  else
   some ((!a2)||false)
 else
  if(a0.ae==5)then
   some ((a2&&v1.2)&&(decide (v1.1≥a0.cd)))
  else
   if(a0.ae==6)then
    some (!a2)
   else
    if(a0.ae==7)then
     some (a2&&(a1==a0.al))
    else
     some true
def Ei (a0:List Ap) (a1:List A9) (v1:Int) (v2:List Aa):Option ((Int × List Aa) ⊕ Option (Int × Ah × List Aa)):=
 if(decide (v1<(a0.length:Int)))then
  (getI a0 v1).bind fun y3=>
  if(y3.ae==2)then
   (Lq v2 (⟨y3.ab,y3.al,false⟩:Aa)).bind fun v4=>
   some (.inl ((IntKind.i64.wrap (v1+1)),v4))
  else
   if(y3.ae==3)then
    (Lq v2 (⟨y3.ab,([]:Ah),true⟩:Aa)).bind fun v5=>
    some (.inl ((IntKind.i64.wrap (v1+1)),v5))
   else
    (RW y3.ab v2 a1).bind fun v6=>
    if(!v6.2.2)then
     some (.inr (some (1,y3.ab, [])))
    else
     (RB y3 v6.1 v6.2.1).bind fun v7=>
     if(!v7)then
      some (.inr (some (2,([]:Ah), [])))
     else
      if(y3.ae==4)then
       (Pk v6.1).bind fun v8=>
       (RY (IntKind.i64.wrap (v8.1+y3.cd))).bind fun v9=>
       (Lq v2 (⟨y3.ab,v9,false⟩:Aa)).bind fun v10=>
       some (.inl ((IntKind.i64.wrap (v1+1)),v10))
      else
       some (.inl ((IntKind.i64.wrap (v1+1)),v2))
 else
  some (.inr (some (3,([]:Ah),v2)))
def VA (a0:List Ap) (a1:List A9):Option (Int × Ah × List Aa):=
 A5 (fun s:Int × List Aa=>Ei a0 a1 s.1 s.2) (0, [])
def R6 (a0:List Aa) (a1:Ah):Option (A9):=
 (Ka a0 a1).bind fun v1=>
 if(!v1.2)then
  some (⟨a1,([]:Ah),false⟩:A9)
 else
  (getI a0 v1.1).bind fun y2=>
  some (⟨a1,y2.al,true⟩:A9)
def Lm (a0:List Aa) (a1:List Ap) (v1:List A9):Option ((List A9) ⊕ Option (List A9 × List Aa × Bool)):=
 (VA a1 v1).bind fun v2=>
 if(v2.1 !=1)then
  some (.inr (some (v1,v2.2.2,(v2.1==3))))
 else
  (R6 a0 v2.2.1).bind fun v3=>
  req ((((v1).length:Int)+(([v3]:List A9).length:Int))*40≤140737488355328∧((v1).length:Int)+(([v3]:List A9).length:Int)≤140737488355328)<|
  some (.inl (v1++ [v3]))
def RU (a0:List Aa) (a1:List Ap):Option (List A9 × List Aa × Bool):=
 A5 (fun s:List A9=>Lm a0 a1 s) []
def Rw (a0:Aa):Option (Bool):=
 some a0.ar
def Pa (v2:List Aa):Option (List Aa × Bool):=
 (Pr v2 (fun y0_=>Rw y0_)).bind fun v3=>
 if(decide ((v3.length:Int)>24))then
  some ([],false)
 else
  some (v3,true)
def HO (a1:List Aa) (v4:Int) (v5:List Aa):Option ((Int × List Aa) ⊕ Option (List Aa × Bool)):=
 if(decide (v4<(a1.length:Int)))then
  (getI a1 v4).bind fun y6=>
  (Lq v5 y6).bind fun v7=>
  some (.inl ((IntKind.i64.wrap (v4+1)),v7))
 else
  some (.inr (Pa v5))
def Lu (a0 a1:List Aa):Option (List Aa × Bool):=
 (MA a0).bind fun v1=>
 A5 (fun s:Int × List Aa=>HO a1 s.1 s.2) (0,v1)
def Lo (a1:List (List Ap)) (v4:Int) (v5:List Aa) (v6:List Bool):Option ((Int × List Aa × List Bool) ⊕ Option (List Aa × List Bool × Bool)):=
 if(decide (v4<(a1.length:Int)))then
  (getI a1 v4).bind fun y7=>
  (RU v5 y7).bind fun v8=>
  (Lu v5 v8.2.1).bind fun v9=>
  if(v8.2.2&&v9.2)then
   req ((((v6).length:Int)+(([(v8.2.2&&v9.2)]:List Bool).length:Int))*1≤140737488355328∧((v6).length:Int)+(([(v8.2.2&&v9.2)]:List Bool).length:Int)≤140737488355328)<|
   some (.inl ((IntKind.i64.wrap (v4+1)),v9.1,(v6++ [(v8.2.2&&v9.2)])))
  else
   req ((((v6).length:Int)+(([(v8.2.2&&v9.2)]:List Bool).length:Int))*1≤140737488355328∧((v6).length:Int)+(([(v8.2.2&&v9.2)]:List Bool).length:Int)≤140737488355328)<|
   some (.inl ((IntKind.i64.wrap (v4+1)),v5,(v6++ [(v8.2.2&&v9.2)])))
 else
  some (.inr (some (v5,v6,true)))
def RA (a0:List Aa) (a1:List (List Ap)):Option (List Aa × List Bool × Bool):=
 (MM a0).bind fun v1=>
 if v1 then
  if(decide ((a1.length:Int)>20))then
   some ([], [],false)
  else
   (Gg a1 (fun y0_=>RG y0_)).bind fun v2=>
   if v2 then
    some ([], [],false)
   else
    (MA a0).bind fun v3=>
    A5 (fun s:Int × List Aa × List Bool=>Lo a1 s.1 s.2.1 s.2.2) (0,v3, [])
 else
  some ([], [],false)
def Ly (a0 a1 a2:Int):Option (Bool):=
 some ((decide (a0≥a1))&&(decide (a0≤a2)))
def Vv (v1:Int) (v3:Bool):Option ((Int) ⊕ Option (Bool)):=
 if(!v3)then
  some (.inr (some false))
 else
  some (.inl (IntKind.i64.wrap (v1+1)))
def O9 (a1:Ah) (v1:Int) (y2:UInt8) (v4:Bool) (v5:Int):Option ((Bool × Int) ⊕ Option ((Int) ⊕ Option (Bool))):=
 if(decide (v5<(a1.length:Int)))then
  if v4 then
   some (.inl (true,(IntKind.i64.wrap (v5+1))))
  else
   (getI a1 v5).bind fun y6=>
   some (.inl (((y2.toNat:Int)==(y6.toNat:Int)),(IntKind.i64.wrap (v5+1))))
 else
  some (.inr (Vv v1 v4))
def Vu (a0 a1:Ah) (v1:Int):Option ((Int) ⊕ Option (Bool)):=
 if(decide (v1<(a0.length:Int)))then
  (getI a0 v1).bind fun y2=>
  A5 (fun s:Bool × Int=>O9 a1 v1 y2 s.1 s.2) ((((decide ((y2.toNat:Int)≥97))&&(decide ((y2.toNat:Int)≤122)))||((decide ((y2.toNat:Int)≥48))&&(decide ((y2.toNat:Int)≤57)))),0)
 else
  some (.inr (some true))
def Po (a0 a1:Ah):Option (Bool):=
 A5 (fun s:Int=>Vu a0 a1 s) 0
def PC (a0:Ah):Option (Bool):=
 (Ly (a0.length:Int) 1 12).bind fun v1=>
 if v1 then
  (Po a0 ([46,47]:Ah)).bind fun v2=>
  some v2
 else
  some false
def Ps (a0:Ah):Option (Bool):=
 if(decide ((a0.length:Int)≤24))then
  (Po a0 ([46,45,44,95]:Ah)).bind fun v1=>
  some v1
 else
  some false
def RX (a0 a1:Ah) (a2:Bool):Option (Bool):=
 (PC a0).bind fun v1=>
 if v1 then
  (Ps a1).bind fun v2=>
  some (v2&&((!a2)||(a1==([]:Ah))))
 else
  some false
def Vy (a0:List Aa):Option (Bool):=
 some (decide ((a0.length:Int)≤24))
def Vt (a0:List Aa) (v1:Int):Option ((Int) ⊕ Option (Bool)):=
 if(decide (v1<(a0.length:Int)))then
  (getI a0 v1).bind fun y2=>
  (RX y2.ab y2.al y2.ar).bind fun v3=>
  if(decide (v1>0))then
   if v3 then
    (getI a0 (IntKind.i64.wrap (v1-1))).bind fun y4=>
    if(!Op.bytesLess y4.ab y2.ab)then
     some (.inr (some false))
    else
     some (.inl (IntKind.i64.wrap (v1+1)))
   else
    some (.inr (some false))
  else
   if((!v3)||false)then
    some (.inr (some false))
   else
    some (.inl (IntKind.i64.wrap (v1+1)))
 else
  some (.inr (Vy a0))
def Pj (a0:List Aa):Option (Bool):=
 A5 (fun s:Int=>Vt a0 s) 0
def VF (a0:List Aa):Option (Bool):=
 (Pj a0).bind fun v1=>
 some v1
def VE (a0:List Aa) (v2:Int):Option ((Int) ⊕ Option (Bool)):=
 if(decide (v2<(a0.length:Int)))then
  (getI a0 v2).bind fun y3=>
  if y3.ar then
   some (.inr (some false))
  else
   some (.inl (IntKind.i64.wrap (v2+1)))
 else
  some (.inr (VF a0))
def Lz (a0:List Aa):Option (Bool):=
 A5 (fun s:Int=>VE a0 s) 0
def RN (a0:Ap) (v2:Bool):Option (Bool):=
 if v2 then
  (Ps a0.al).bind fun v3=>
  some (v3&&(a0.cd==0))
 else
  if(a0.ae==4)then
   if(a0.ae==4)then
    if(a0.al==([]:Ah))then
     (Ly a0.cd (-9999) 9999).bind fun v4=>
     some v4
    else
     some false
   else
    some (((((a0.ae==1)||(a0.ae==3))||(a0.ae==6))&&(a0.al==([]:Ah)))&&(a0.cd==0))
  else
   if(a0.ae==5)then
    if(a0.al==([]:Ah))then
     (Ly a0.cd (-9999) 9999).bind fun v5=>
     some v5
    else
     some false
   else
    some (((((a0.ae==1)||(a0.ae==3))||(a0.ae==6))&&(a0.al==([]:Ah)))&&(a0.cd==0))
def Si (a0:Ap):Option (Bool):=
 (PC a0.ab).bind fun v1=>
 if(!v1)then
  some false
 else
  if(a0.ae==2)then
   RN a0 (a0.ae==2)
  else
   RN a0 (a0.ae==7)
def VG (a0:List Ap):Option (Bool):=
 some (decide ((a0.length:Int)≤8))
def MD (a0:List Ap) (v1:Int):Option ((Int) ⊕ Option (Bool)):=
 if(decide (v1<(a0.length:Int)))then
  (getI a0 v1).bind fun y2=>
  (Si y2).bind fun v3=>
  if(!v3)then
   some (.inr (some false))
  else
   some (.inl (IntKind.i64.wrap (v1+1)))
 else
  some (.inr (VG a0))
def Sb (a0:List Ap):Option (Bool):=
 A5 (fun s:Int=>MD a0 s) 0
def MJ (a1:List A9) (a2:Ah) (v1:Int):Option ((Int) ⊕ Option (Ah × Bool × Bool)):=
 if(decide (v1<(a1.length:Int)))then
  (getI a1 v1).bind fun y2=>
  if(y2.ab==a2)then
   some (.inr (some (y2.al,y2.c7,true)))
  else
   some (.inl (IntKind.i64.wrap (v1+1)))
 else
  some (.inr (some (([]:Ah),false,false)))
def RJ (a1:List A9) (a2:Ah):Option (Ah × Bool × Bool):=
 A5 (fun s:Int=>MJ a1 a2 s) 0
def MH (a0:List Aa) (a1:List A9) (a2:Ah) (v3:Int):Option ((Int) ⊕ Option (Ah × Bool × Bool)):=
 if(decide (v3<(a0.length:Int)))then
  (getI a0 v3).bind fun y4=>
  if(y4.ab==a2)then
   some (.inr (some (y4.al,(!y4.ar),true)))
  else
   some (.inl (IntKind.i64.wrap (v3+1)))
 else
  some (.inr (RJ a1 a2))
def R2 (a0:List Aa) (a1:List A9) (a2:Ah):Option (Ah × Bool × Bool):=
 A5 (fun s:Int=>MH a0 a1 a2 s) 0
def J9 (a0:Ah) (v3 v4:Int):Option ((Int × Int) ⊕ Option (Int)):=
 if(decide (v4<(a0.length:Int)))then
  (getI a0 v4).bind fun y5=>
  if((decide ((y5.toNat:Int)<48))||(decide ((y5.toNat:Int)>57)))then
   some (.inr (some (-1)))
  else
   some (.inl ((IntKind.i64.wrap ((IntKind.i64.wrap ((10:Int)*v3))+(IntKind.i64.wrap (IntKind.u8.wrap ((y5.toNat:Int)-48))))),(IntKind.i64.wrap (v4+1))))
 else
  some (.inr (some v3))
def Pu (a0:Ah):Option (Int):=
 (Ly (a0.length:Int) 1 6).bind fun v1=>
 if v1 then
  (getI a0 0).bind fun y2=>
  if(((y2.toNat:Int)==48)&&(decide ((a0.length:Int)>1)))then
   some (-1)
  else
   A5 (fun s:Int × Int=>J9 a0 s.1 s.2) (0,0)
 else
  some (-1)
def RV (y1:UInt8) (v2:Ah):Option (Int × Bool):=
 (Pu v2).bind fun v3=>
 if((decide (v3<0))||(((y1.toNat:Int)==45)&&(v3==0)))then
  some (0,false)
 else
  if((y1.toNat:Int)==45)then
   some ((IntKind.i64.wrap (0-v3)),true)
  else
   some (v3,true)
def Y1 (v4:Ah):Option (Int × Bool):=
 (Pu v4).bind fun v5=>
 if((decide (v5<0))||false)then
  some (0,false)
 else
  some (v5,true)
def PD (a0:Ah):Option (Int × Bool):=
 if(decide ((a0.length:Int)>0))then
  (getI a0 0).bind fun y1=>
  if((y1.toNat:Int)==45)then
   req (0≤(1:Int)∧(1:Int)≤(a0.length:Int)∧(a0.length:Int)≤(a0.length:Int))<|
   RV y1 (Ca a0 1 (a0.length:Int))
  else
   RV y1 a0
 else
  Y1 a0
def RQ (a0:Ap) (a1:Ah) (a2:Bool):Option (Bool):=
 (PD a1).bind fun v1=>
 if(a0.ae==4)then
  if(!a2)then
   some false
  else
   if v1.2 then
    (Ly (IntKind.i64.wrap (v1.1+a0.cd)) (-999999) 999999).bind fun v2=>
    some (!v2)
   else
    some true
 else
  if(a0.ae==5)then
   some (((!a2)||(!v1.2))||(decide (v1.1<a0.cd)))
  else
   if(a0.ae==6)then
    some a2
   else
    if(a0.ae==7)then
     some ((!a2)||(a1 !=a0.al))
    else
     some false
def RE (a0:List Aa) (a1:Aa) (v1:Int):Option (List Aa):=
 if(decide (v1>0))then
  (getI a0 (IntKind.i64.wrap (v1-1))).bind fun y2=>
  if(y2.ab==a1.ab)then
   req (((([]:List Aa).length:Int)+((a0).length:Int))*40≤140737488355328∧(([]:List Aa).length:Int)+((a0).length:Int)≤140737488355328)<|
   (getI a0 (IntKind.i64.wrap (v1-1))).bind fun y3=>
   some (a0.set ((IntKind.i64.wrap (v1-1))).toNat a1)
  else
   req (0≤v1∧v1≤(a0.length:Int)∧(a0.length:Int)≤(a0.length:Int))<|
   req (((([]:List Aa).length:Int)+(((Ca a0 v1 (a0.length:Int))).length:Int))*40≤140737488355328∧(([]:List Aa).length:Int)+(((Ca a0 v1 (a0.length:Int))).length:Int)≤140737488355328)<|
   req (0≤(0:Int)∧(0:Int)≤v1∧v1≤(a0.length:Int))<|
   req (((([]:List Aa).length:Int)+(((Ca a0 0 v1)).length:Int))*40≤140737488355328∧(([]:List Aa).length:Int)+(((Ca a0 0 v1)).length:Int)≤140737488355328)<|
   req (((((Ca a0 0 v1)).length:Int)+(([a1]:List Aa).length:Int))*40≤140737488355328∧(((Ca a0 0 v1)).length:Int)+(([a1]:List Aa).length:Int)≤140737488355328)<|
   req ((((((Ca a0 0 v1)++ [a1])).length:Int)+(((Ca a0 v1 (a0.length:Int))).length:Int))*40≤140737488355328∧((((Ca a0 0 v1)++ [a1])).length:Int)+(((Ca a0 v1 (a0.length:Int))).length:Int)≤140737488355328)<|
   some (((Ca a0 0 v1)++ [a1])++(Ca a0 v1 (a0.length:Int)))
 else
  req (0≤v1∧v1≤(a0.length:Int)∧(a0.length:Int)≤(a0.length:Int))<|
  req (((([]:List Aa).length:Int)+(((Ca a0 v1 (a0.length:Int))).length:Int))*40≤140737488355328∧(([]:List Aa).length:Int)+(((Ca a0 v1 (a0.length:Int))).length:Int)≤140737488355328)<|
  req (0≤(0:Int)∧(0:Int)≤v1∧v1≤(a0.length:Int))<|
  req (((([]:List Aa).length:Int)+(((Ca a0 0 v1)).length:Int))*40≤140737488355328∧(([]:List Aa).length:Int)+(((Ca a0 0 v1)).length:Int)≤140737488355328)<|
  req (((((Ca a0 0 v1)).length:Int)+(([a1]:List Aa).length:Int))*40≤140737488355328∧(((Ca a0 0 v1)).length:Int)+(([a1]:List Aa).length:Int)≤140737488355328)<|
  req ((((((Ca a0 0 v1)++ [a1])).length:Int)+(((Ca a0 v1 (a0.length:Int))).length:Int))*40≤140737488355328∧((((Ca a0 0 v1)++ [a1])).length:Int)+(((Ca a0 v1 (a0.length:Int))).length:Int)≤140737488355328)<|
  some (((Ca a0 0 v1)++ [a1])++(Ca a0 v1 (a0.length:Int)))
def Lx (a0:List Aa) (a1:Aa) (v4:Int):Option ((Int) ⊕ Option (List Aa)):=
 if(decide (v4>0))then
  (getI a0 (IntKind.i64.wrap (v4-1))).bind fun y5=>
  if(!(Op.bytesLess y5.ab a1.ab||y5.ab==a1.ab))then
   some (.inl (IntKind.i64.wrap (v4-1)))
  else
   some (.inr (RE a0 a1 v4))
 else
  some (.inr (RE a0 a1 v4))
def Ke (a0:List Aa) (a1:Aa):Option (List Aa):=
 A5 (fun s:Int=>Lx a0 a1 s) (a0.length:Int)
def Lr:Nat→Int→Option (Ah)
 |0,_=>none
 |n_+1,a0=>
  if(decide (a0<10))then
   req (([(IntKind.u8.wrap (IntKind.i64.wrap ((48:Int)+a0)))]:List Int).length≤9223372036854775807)<|
   some ([(IntKind.u8.wrap (IntKind.i64.wrap ((48:Int)+a0)))].map fun n=>UInt8.ofNat n.toNat)
  else
   ((Lr n_) (IntKind.i64.wrap (Int.tdiv a0 10))).bind fun v1=>
   req (([(IntKind.u8.wrap (IntKind.i64.wrap ((48:Int)+(Int.tmod a0 10))))]:List Int).length≤9223372036854775807)<|
   req ((v1).length+(([(IntKind.u8.wrap (IntKind.i64.wrap ((48:Int)+(Int.tmod a0 10))))].map fun n=>UInt8.ofNat n.toNat)).length≤9223372036854775807)<|
   some (v1++([(IntKind.u8.wrap (IntKind.i64.wrap ((48:Int)+(Int.tmod a0 10))))].map fun n=>UInt8.ofNat n.toNat))
def R8:Int→Option (Ah):=Lr QC
def Pt (a0:Int):Option (Ah):=
 if(decide (a0<0))then
  (R8 (IntKind.i64.wrap (0-a0))).bind fun v1=>
  req ((([45]:Ah)).length+(v1).length≤9223372036854775807)<|
  some ((([45]:Ah):Ah)++v1)
 else
  (R8 a0).bind fun v2=>
  some v2
def Ej (a0:List Ap) (a1:List A9) (v1:List Aa) (v2:Int):Option ((List Aa × Int) ⊕ Option (Int × Ah × List Aa)):=
 if(decide (v2<(a0.length:Int)))then
  (getI a0 v2).bind fun y3=>
  (R2 v1 a1 y3.ab).bind fun v4=>
  if(((!v4.2.2)&&(y3.ae !=2))&&(y3.ae !=3))then
   some (.inr (some (1,y3.ab, [])))
  else
   (RQ y3 v4.1 v4.2.1).bind fun v5=>
   if v5 then
    some (.inr (some (2,([]:Ah), [])))
   else
    if(y3.ae==2)then
     (Ke v1 (⟨y3.ab,y3.al,false⟩:Aa)).bind fun v6=>
     some (.inl (v6,(IntKind.i64.wrap (v2+1))))
    else
     if(y3.ae==3)then
      (Ke v1 (⟨y3.ab,([]:Ah),true⟩:Aa)).bind fun v7=>
      some (.inl (v7,(IntKind.i64.wrap (v2+1))))
     else
      if(y3.ae==4)then
       (PD v4.1).bind fun v8=>
       if(!v4.2.1)then
        (Pt (IntKind.i64.wrap ((0:Int)+y3.cd))).bind fun v9=>
        (Ke v1 (⟨y3.ab,v9,false⟩:Aa)).bind fun v10=>
        some (.inl (v10,(IntKind.i64.wrap (v2+1))))
       else
        (Pt (IntKind.i64.wrap (v8.1+y3.cd))).bind fun v11=>
        (Ke v1 (⟨y3.ab,v11,false⟩:Aa)).bind fun v12=>
        some (.inl (v12,(IntKind.i64.wrap (v2+1))))
      else
       some (.inl (v1,(IntKind.i64.wrap (v2+1))))
 else
  some (.inr (some (3,([]:Ah),v1)))
def VS (a0:List Ap) (a1:List A9):Option (Int × Ah × List Aa):=
 A5 (fun s:List Aa × Int=>Ej a0 a1 s.1 s.2) ([],0)
def Y4 (a1:Ah):Option (A9):=
 some (⟨a1,([]:Ah),false⟩:A9)
def MC (a0:List Aa) (a1:Ah) (v1:Int):Option ((Int) ⊕ Option (A9)):=
 if(decide (v1<(a0.length:Int)))then
  (getI a0 v1).bind fun y2=>
  if(y2.ab==a1)then
   some (.inr (some (⟨a1,y2.al,true⟩:A9)))
  else
   some (.inl (IntKind.i64.wrap (v1+1)))
 else
  some (.inr (Y4 a1))
def Sa (a0:List Aa) (a1:Ah):Option (A9):=
 A5 (fun s:Int=>MC a0 a1 s) 0
def Lv (a0:List Aa) (a1:List Ap) (v1:List A9):Option ((List A9) ⊕ Option (List A9 × List Aa × Bool)):=
 (VS a1 v1).bind fun v2=>
 if(v2.1 !=1)then
  some (.inr (some (v1,v2.2.2,(v2.1==3))))
 else
  (Sa a0 v2.2.1).bind fun v3=>
  req ((((v1).length:Int)+(([v3]:List A9).length:Int))*40≤140737488355328∧((v1).length:Int)+(([v3]:List A9).length:Int)≤140737488355328)<|
  some (.inl (v1++ [v3]))
def VB (a0:List Aa) (a1:List Ap):Option (List A9 × List Aa × Bool):=
 A5 (fun s:List A9=>Lv a0 a1 s) []
def HQ (v1 v2:List Aa) (v3:Int):Option ((List Aa × Int) ⊕ Option (List Aa)):=
 if(decide (v3<(v1.length:Int)))then
  (getI v1 v3).bind fun y4=>
  if(!y4.ar)then
   req ((((v2).length:Int)+(([y4]:List Aa).length:Int))*40≤140737488355328∧((v2).length:Int)+(([y4]:List Aa).length:Int)≤140737488355328)<|
   some (.inl ((v2++ [y4]),(IntKind.i64.wrap (v3+1))))
  else
   some (.inl (v2,(IntKind.i64.wrap (v3+1))))
 else
  some (.inr (some v2))
def Pf (v1:List Aa):Option (List Aa):=
 A5 (fun s:List Aa × Int=>HQ v1 s.1 s.2) ([],0)
def HR (a1:List Aa) (v5:Int) (v6:List Aa):Option ((Int × List Aa) ⊕ Option (List Aa)):=
 if(decide (v5<(a1.length:Int)))then
  (getI a1 v5).bind fun y7=>
  (Ke v6 y7).bind fun v8=>
  some (.inl ((IntKind.i64.wrap (v5+1)),v8))
 else
  some (.inr (Pf v6))
def Kb (a0 a1:List Aa):Option (List Aa):=
 req (((([]:List Aa).length:Int)+((a0).length:Int))*40≤140737488355328∧(([]:List Aa).length:Int)+((a0).length:Int)≤140737488355328)<|
 A5 (fun s:Int × List Aa=>HR a1 s.1 s.2) (0,a0)
def Lp (a1:List (List Ap)) (v2:List Bool) (v3:Int) (v4:List Aa):Option ((List Bool × Int × List Aa) ⊕ Option (List Aa × List Bool × Bool)):=
 if(decide (v3<(a1.length:Int)))then
  (getI a1 v3).bind fun y5=>
  (VB v4 y5).bind fun v6=>
  (Kb v4 v6.2.1).bind fun v7=>
  if v6.2.2 then
   (Lz v7).bind fun v8=>
   if v8 then
    req ((((v2).length:Int)+(([v8]:List Bool).length:Int))*1≤140737488355328∧((v2).length:Int)+(([v8]:List Bool).length:Int)≤140737488355328)<|
    some (.inl ((v2++ [v8]),(IntKind.i64.wrap (v3+1)),v7))
   else
    req ((((v2).length:Int)+(([v8]:List Bool).length:Int))*1≤140737488355328∧((v2).length:Int)+(([v8]:List Bool).length:Int)≤140737488355328)<|
    some (.inl ((v2++ [v8]),(IntKind.i64.wrap (v3+1)),v4))
  else
   req ((((v2).length:Int)+(([false]:List Bool).length:Int))*1≤140737488355328∧((v2).length:Int)+(([false]:List Bool).length:Int)≤140737488355328)<|
   some (.inl ((v2++ [false]),(IntKind.i64.wrap (v3+1)),v4))
 else
  some (.inr (some (v4,v2,true)))
def Vx (a0:List Aa) (a1:List (List Ap)):Option (List Aa × List Bool × Bool):=
 req (((([]:List Aa).length:Int)+((a0).length:Int))*40≤140737488355328∧(([]:List Aa).length:Int)+((a0).length:Int)≤140737488355328)<|
 A5 (fun s:List Bool × Int × List Aa=>Lp a1 s.1 s.2.1 s.2.2) ([],0,a0)
def ME (a0:List Aa) (a1:List (List Ap)) (v9:Int):Option ((Int) ⊕ Option (List Aa × List Bool × Bool)):=
 if(decide (v9<(a1.length:Int)))then
  (getI a1 v9).bind fun y10=>
  (Sb y10).bind fun v11=>
  if(!v11)then
   some (.inr (some ([], [],false)))
  else
   some (.inl (IntKind.i64.wrap (v9+1)))
 else
  some (.inr (Vx a0 a1))
def Rx (a0:List Aa) (a1:List (List Ap)):Option (List Aa × List Bool × Bool):=
 (Lz a0).bind fun v1=>
 if((!v1)||(decide ((a1.length:Int)>20)))then
  some ([], [],false)
 else
  A5 (fun s:Int=>ME a0 a1 s) 0
def My (a0 a1:List Aa) (v1:Int):Option ((Int) ⊕ Option (Bool)):=
 if(decide (v1<(a0.length:Int)))then
  (getI a0 v1).bind fun y2=>
  (getI a1 v1).bind fun y3=>
  if(!(y2.ab==y3.ab&&(y2.al==y3.al&&(y2.ar==y3.ar))))then
   some (.inr (some false))
  else
   some (.inl (IntKind.i64.wrap (v1+1)))
 else
  some (.inr (some true))
def Ll (a0 a1:List Aa):Option (Bool):=
 if((a0.length:Int) !=(a1.length:Int))then
  some false
 else
  A5 (fun s:Int=>My a0 a1 s) 0
def MF (a0 a1:List Bool) (v1:Int):Option ((Int) ⊕ Option (Bool)):=
 if(decide (v1<(a0.length:Int)))then
  (getI a0 v1).bind fun y2=>
  (getI a1 v1).bind fun y3=>
  if(y2 !=y3)then
   some (.inr (some false))
  else
   some (.inl (IntKind.i64.wrap (v1+1)))
 else
  some (.inr (some true))
def RD (a0 a1:List Bool):Option (Bool):=
 if((a0.length:Int) !=(a1.length:Int))then
  some false
 else
  A5 (fun s:Int=>MF a0 a1 s) 0
def R1 (a0:List Aa) (a1:List Ap):Option (List A9 × List Aa × Bool × Bool):=
 (MM a0).bind fun v1=>
 if v1 then
  (Pp a1).bind fun v2=>
  if(!v2)then
   some ([], [],false,false)
  else
   (RU a0 a1).bind fun v3=>
   some (v3.1,v3.2.1,v3.2.2,true)
 else
  some ([], [],false,false)
def MN (a0 a1:List Aa):Option (List Aa × Bool):=
 (MM a0).bind fun v1=>
 if v1 then
  (O8 a1).bind fun v2=>
  if(!v2)then
   some ([],false)
  else
   (Lu a0 a1).bind fun v3=>
   some (v3.1,v3.2)
 else
  some ([],false)
def Rq (a0:AE) (a1:Ah):Option (Aa × AE):=
 (I8 a0 4).bind fun v1=>
 if v1.1 then
  some ((⟨a1,([]:Ah),true⟩:Aa),v1.2)
 else
  (Pc v1.2).bind fun v2=>
  some ((⟨a1,v2.1,false⟩:Aa),v2.2)
def YP (v1:List Aa) (v2:Int) (v3:List Int) (v4 v5:Int):Option ((List Aa × Int × List Int × Int × Int) ⊕ Option (List Aa × AE)):=
 if(decide (v2<([([97]:Ah),([98]:Ah),([99]:Ah),([105,47,120,47,49]:Ah),([109]:Ah),([110]:Ah),([114,47,49]:Ah),([122]:Ah)].length:Int)))then
  (getI [([97]:Ah),([98]:Ah),([99]:Ah),([105,47,120,47,49]:Ah),([109]:Ah),([110]:Ah),([114,47,49]:Ah),([122]:Ah)] v2).bind fun y6=>
  (I8 (⟨v3,v4,v5⟩:AE) 4).bind fun v7=>
  if v7.1 then
   (Rq v7.2 y6).bind fun v8=>
   req ((((v1).length:Int)+(([v8.1]:List Aa).length:Int))*40≤140737488355328∧((v1).length:Int)+(([v8.1]:List Aa).length:Int)≤140737488355328)<|
   some (.inl ((v1++ [v8.1]),(IntKind.i64.wrap (v2+1)),v8.2.ao,v8.2.cf,v8.2.aq))
  else
   some (.inl (v1,(IntKind.i64.wrap (v2+1)),v7.2.ao,v7.2.cf,v7.2.aq))
 else
  some (.inr (some (v1,(⟨v3,v4,v5⟩:AE))))
def Rm (a0:AE):Option (List Aa × AE):=
 A5 (fun s:List Aa × Int × List Int × Int × Int=>YP s.1 s.2.1 s.2.2.1 s.2.2.2.1 s.2.2.2.2) ([],0,a0.ao,a0.cf,a0.aq)
def Ru (a0:AE):Option (List Aa × AE):=
 (Rm a0).bind fun v1=>
 if(decide ((v1.1.length:Int)>0))then
  (FT v1.2 25).bind fun v2=>
  if(v2.1==0)then
   (Kd v2.2 ([([]:Ah),([65]:Ah),([122]:Ah),([116,111,111,108,111,110,103,97,107,101,121,48,48]:Ah)]:List (Ah))).bind fun v3=>
   (getI v1.1 0).bind fun y4=>
   some ((v1.1.set ((0:Int)).toNat {y4 with ab:=v3.1}),(⟨v3.2.ao,v3.2.cf,v3.2.aq⟩:AE))
  else
   if(v2.1==1)then
    (Kd v2.2 ([([32]:Ah),([48,49,50,51,52,53,54,55,56,57,48,49,50,51,52,53,54,55,56,57,48,49,50,51,52]:Ah)]:List (Ah))).bind fun v5=>
    (getI v1.1 0).bind fun y6=>
    some ((v1.1.set ((0:Int)).toNat {y6 with al:=v5.1}),(⟨v5.2.ao,v5.2.cf,v5.2.aq⟩:AE))
   else
    if(v2.1==2)then
     (getI v1.1 0).bind fun y7=>
     some ((v1.1.set ((0:Int)).toNat {y7 with ar:=(!y7.ar)}),(⟨v2.2.ao,v2.2.cf,v2.2.aq⟩:AE))
    else
     some (v1.1,(⟨v2.2.ao,v2.2.cf,v2.2.aq⟩:AE))
 else
  some (v1.1,(⟨v1.2.ao,v1.2.cf,v1.2.aq⟩:AE))
def RM (a0:List Int):Option (List Aa × List Aa):=
 (Mx (⟨a0,0,0⟩:AE)).bind fun v1=>
 (Ru v1.2).bind fun v2=>
 some (v1.1,v2.1)
def RS (a0 a1:List Aa):Option (List Aa × Bool):=
 (Lz a0).bind fun v1=>
 if v1 then
  (Pj a1).bind fun v2=>
  if v2 then
   (Kb a0 a1).bind fun v3=>
   (Lz v3).bind fun v4=>
   if(!v4)then
    some ([],false)
   else
    (Kb a0 a1).bind fun v5=>
    some (v5,true)
  else
   some ([],false)
 else
  some ([],false)
def RC (a1:List Int):Option (Bool):=
 (RM a1).bind fun v7=>
 (MN v7.1 v7.2).bind fun v8=>
 (RS v7.1 v7.2).bind fun v9=>
 if(v8.2 !=v9.2)then
  some false
 else
  (Ll v8.1 v9.1).bind fun v10=>
  if(!v10)then
   some false
  else
   if v8.2 then
    (MN v8.1 v7.2).bind fun v11=>
    if v11.2 then
     (Ll v11.1 v8.1).bind fun v12=>
     some v12
    else
     some false
   else
    some true
def Y7 (a1:List Int) (v3:List Aa × List Bool × Bool) (v13:List Aa):Option (Bool):=
 (Ll v13 v3.1).bind fun v14=>
 if(!v14)then
  some false
 else
  RC a1
def Lw (a1:List Int) (v2:List Aa × List (List Ap)) (v3:List Aa × List Bool × Bool) (v15:List Aa) (v16:Int):Option ((List Aa × Int) ⊕ Option (Bool)):=
 if(decide (v16<(v2.2.length:Int)))then
  (getI v2.2 v16).bind fun y17=>
  (R1 v15 y17).bind fun v18=>
  (MN v15 v18.2.1).bind fun v19=>
  if v18.2.2.2 then
   (getI v3.2.1 v16).bind fun y20=>
   if(y20 !=(v18.2.2.1&&v19.2))then
    some (.inr (some false))
   else
    if y20 then
     some (.inl (v19.1,(IntKind.i64.wrap (v16+1))))
    else
     some (.inl (v15,(IntKind.i64.wrap (v16+1))))
  else
   some (.inr (some false))
 else
  some (.inr (Y7 a1 v3 v15))
def RO (a0 a1:List Int):Option (Bool):=
 (Wm a0 a1).bind fun v1=>
 if v1 then
  some true
 else
  (Rr a0).bind fun v2=>
  (RA v2.1 v2.2).bind fun v3=>
  (Rx v2.1 v2.2).bind fun v4=>
  if(v3.2.2 !=v4.2.2)then
   some false
  else
   (Ll v3.1 v4.1).bind fun v5=>
   if v5 then
    (RD v3.2.1 v4.2.1).bind fun v6=>
    if(!v6)then
     some false
    else
     if v3.2.2 then
      A5 (fun s:List Aa × Int=>Lw a1 v2 v3 s.1 s.2) (v2.1,0)
     else
      RC a1
   else
    some false
end Go.Proofs.YtollgpkegmbpmaaGreatDoor
end

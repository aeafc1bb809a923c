/- Parts of a proof, joined: DA, DB, MA, MB, OB, OG, QA, QO, MC, MD, QT, TF, HB, SP, HL, IA, IC, IB, RI, SB, SE, SX, NA, PK, SJ. -/
import Derived.Test.YtollgpkegmbpmaaGreatDoorD6
import Derived.Test.YtollgpkegmbpmaaGreatDoorProg
import Derived.Test.YtollgpkegmbpmaaGreatDoorChecked
import Derived.Shelf.Strings.Builder1
import Derived.Shelf.Strings.Builder2
import Derived.Shelf.Strings.OnBuilder
import Derived.Shelf.Small.Bits
import Derived.Shelf.Small.Strs
import Derived.Shelf.Small.Wraps
import Derived.Shelf.Strings.BuilderF
import Derived.Shelf.Strings.BuilderK
import Derived.Shelf.Utf8.RuneCount
import Derived.Shelf.Strings.Builder2Cap
import Derived.Shelf.Strconv.Atoi
import Derived.Shelf.Strconv.Itoa0
import Derived.Shelf.Strconv.Itoa1
import Derived.Shelf.LaysM
import Derived.Shelf.Strconv.Itoa2
import Derived.Shelf.Strconv.Itoa3
import Derived.Shelf.Strconv.AtoiErrFast
import Derived.Shelf.Strconv.ParseIntEmpty
import Derived.Shelf.Strconv.AtoiFail
import Derived.Shelf.Strconv.Clone
import Derived.Shelf.Strconv.SyntaxError
import Derived.Shelf.LaysC
import Derived.Shelf.Strconv.ToError
import Derived.Shelf.Strconv.Lower
import Derived.Shelf.Strconv.ParseUint10
import Derived.Shelf.Strconv.ParseUint10Empty
import Derived.Shelf.Strconv.ParseUint10Any
import Derived.Shelf.Strconv.ParseInt10
import Derived.Shelf.Strconv.AtoiLong
import Derived.Shelf.Strconv.AtoiInnerAll
import Derived.Shelf.Strconv.RangeError
import Derived.Shelf.Strconv.ToErrorRange
import Derived.Shelf.Strconv.AtoiAll
import Derived.Shelf.Strconv.ErrVarAll
import Derived.Shelf.Strings.Search1
import Derived.Shelf.Strings.Search2
import Derived.Shelf.Strings.Search3
import Derived.Shelf.Strings.Cut
import Derived.Shelf.Strings.Count
import Derived.Shelf.Strings.Shaped
import Derived.Shelf.Strings.Prefix
import Derived.Shelf.Strings.Split
import Derived.Shelf.Strings.SplitShaped
import Derived.Shelf.Unicode.Decode
import Derived.Shelf.Strings.RuneCount
import Derived.Shelf.Strings.Explode
import Derived.Shelf.Unicode.DecodeSlow
import Derived.Shelf.Unicode.DecodeAny
import Derived.Shelf.Strings.BuilderCap
import Derived.Ground.Names2Prog
import Derived.Shelf.Slices.Clone
import Derived.Shelf.Slices.CompactS
import Derived.Shelf.Slices.Cells
import Derived.Ground.SlgnProg
import Derived.Shelf.SlicesE.Clone
import Derived.Laws.CopyRow
import Derived.Lib.AppendZerosOnto
import Derived.Lib.Overlaps
import Derived.Deep.RegionLaw
import Derived.StillTailTactics
import Derived.Deep.QuietTactic
import Derived.Sort.Grow
import Derived.Shelf.GgSortFunc.InsertionK
import Derived.Shelf.SlGeneric
import Derived.Shelf.SlLaysF0
import Derived.Ground.SlsfProg
import Derived.Shelf.SlSortCmp.NoneTotal
set_option linter.unusedVariables false
set_option linter.unusedSimpArgs false
section
namespace Go.Proofs.YtollgpkegmbpmaaGreatDoor
open Go.RowKit
noncomputable def fW (t:TypeId):List Bool:=(AW Tryz.prog t).map fun u=>match Cr Tryz.prog u with|some e=>BQ Tryz.prog e|none=>false
noncomputable def iM (u:TypeId):List Bool:=if u=109 then []else fW u
noncomputable def yB (fn:Func):GL:={b8:=fn.params.toList.map fun t=>match JI Tryz.prog t with|some u=> .bx (iM u) (iM u)|none=> .ro,res:=fn.resultTypes.toList.flatMap fW}
noncomputable def yU (f:Nat):Option GL:=
 match f with
 |8=>some {b8:= [],res:= []}
 |13=>some {b8:= [],res:= []}
 |14=>some {b8:= [.ro, .ro],res:= []}
 |19=>some {b8:= [],res:= []}
 |26=>some {b8:= [],res:= []}
 |28=>some {b8:= [],res:= []}
 |35=>some {b8:= [],res:= []}
 |37=>some {b8:= [],res:= []}
 |38=>some {b8:= [.ro],res:= []}
 |40=>some {b8:= [],res:= []}
 |43=>some {b8:= [],res:= []}
 |49=>some {b8:= [],res:= []}
 |50=>some {b8:= [.ro, .ro, .ro],res:= []}
 |51=>some {b8:= [.ro, .ro, .ro],res:= []}
 |55=>some {b8:= [],res:= []}
 |62=>some {b8:= [.bx [] [], .ro, .ro],res:= []}
 |67=>some {b8:= [.ro, .ro],res:= []}
 |93=>some {b8:= [.mu [true]],res:= []}
 |94=>some {b8:= [.va [true]],res:= [true]}
 |98=>some {b8:= [],res:= []}
 |100=>some {b8:= [.ro, .ro],res:= []}
 |102=>some {b8:= [.bx [] [], .ro, .ro],res:= []}
 |103=>some {b8:= [.bx [] []],res:= []}
 |122=>some {b8:= [.ro, .ro, .ro],res:= []}
 |123=>some {b8:= [.ro, .ro, .ro],res:= []}
 |129=>some {b8:= [.ro, .ro, .bx [true] [true]],res:= [],ft:= [1000000037]}
 |136=>some {b8:= [.bx [] [], .ro, .ro],res:= []}
 |140=>some {b8:= [.ro, .ro],res:= [true],dp:=true}
 |146=>some {b8:= [.ro, .ro],res:= []}
 |147=>some {b8:= [.ro],res:= []}
 |162=>some {b8:= [.va [true], .ro],res:= [true]}
 |163=>some {b8:= [.va [true], .ro],res:= [true],wn:=true}
 |184=>some {b8:= [.mu [true], .ro, .ro, .ro],res:= []}
 |194=>some {b8:= [.ro, .ro, .ro],res:= []}
 |198=>some {b8:= [.mu [true], .ro],res:= []}
 |220=>some {b8:= [.ro, .ro, .ro, .ro],res:= []}
 |228=>some {b8:= [.va [true], .ro, .va [true]],res:= [true]}
 |233=>some {b8:= [.mu [true], .ro, .ro],res:= []}
 |234=>some {b8:= [.mu [true], .ro, .ro],res:= []}
 |235=>some {b8:= [.mu [true], .ro, .ro],res:= []}
 |236=>some {b8:= [.mu [true], .ro, .ro],res:= []}
 |237=>some {b8:= [.mu [true], .ro, .ro],res:= []}
 |238=>some {b8:= [.mu [true], .ro, .ro],res:= []}
 |240=>some {b8:= [.mu [true], .ro, .ro, .ro],res:= []}
 |241=>some {b8:= [.mu [true], .ro, .ro, .ro],res:= []}
 |249=>some {b8:= [.mu [true], .ro, .ro, .ro, .ro],res:= []}
 |273=>some {b8:= [.mu [true], .ro, .ro, .ro],res:= []}
 |276=>some {b8:= [.mu [true], .ro, .bx [false] [false]],res:= []}
 |277=>some {b8:= [.mu [true], .ro, .ro, .ro, .bx [false] [false]],res:= []}
 |280=>some {b8:= [.mu [true], .ro, .ro, .ro],res:= []}
 |281=>some {b8:= [.mu [true], .ro, .ro, .ro],res:= []}
 |282=>some {b8:= [.mu [true], .ro, .ro, .ro],res:= []}
 |283=>some {b8:= [.mu [true], .ro, .ro, .ro],res:= []}
 |284=>some {b8:= [.mu [true], .ro, .ro, .ro],res:= []}
 |285=>some {b8:= [.mu [true], .ro, .ro, .ro],res:= []}
 |286=>some {b8:= [.mu [true], .ro, .ro, .ro, .ro],res:= []}
 |287=>some {b8:= [.mu [true], .ro, .ro, .ro, .ro],res:= []}
 |290=>some {b8:= [.va [true], .ro],res:= [true],wn:=true}
 |305=>some {b8:= [.mu [true], .ro],res:= []}
 |307=>some {b8:= [.mu [true], .ro, .ro, .bx [false] [false]],res:= []}
 |309=>some {b8:= [.mu [true], .ro, .ro, .ro, .ro],res:= []}
 |310=>some {b8:= [.mu [true], .ro, .bx [false] [false], .ro],res:= []}
 |311=>some {b8:= [.mu [true], .ro, .ro, .ro, .bx [false] [false], .ro],res:= []}
 |320=>some {b8:= [.mu [true]],res:= []}
 |330=>some {b8:= [.mu [true], .ro, .ro, .bx [false] [false], .ro],res:= []}
 |_=>none
noncomputable def jG (f:Nat):Option GL:=match Tryz.prog.funcs[f]? with
 |some fn=>some ((yU f).getD (yB fn))
 |none=>none
noncomputable def B2:BC:={f:=jG}
theorem yF:Tryz.prog.follows .mixedOrders=true:=by kernel_rfl
theorem zM:Tryz.prog.funcs.size<1000000:=by
 have:(decide (Tryz.prog.funcs.size<1000000))=true:=by kernel_rfl
 exact of_decide_eq_true this
theorem Nx (f:Nat) (s:GL) (h:B2 f=some s):f<1000000:=by
 simp only [B2]at h;unfold jG at h;split at h
 ·rename_i fn hf;have:=(Array.getElem?_eq_some_iff.1 hf).1;exact Nat.lt_trans this zM
 ·cases h
def T0 (P:Program) (sg:BC) (f:Nat) (xs:List AV) (r:AV):Bool:=
 match P.funcs[f]?,sg f with
 |some fn,some s=> !(fn.name== "runtime.NumGoroutine")&&KB P fn s r&&xs.length==fn.params.size+fn.nfree
 |_,_=>false
abbrev Den (t:Tr) (r:AV) (xs:List AV):Prop:=t.den (B6 Tryz.prog B2) (fun r'=>r'=r) (fun _ _ _ _=>False) [] xs
theorem KO {f:Nat} {t:Tr} {xs:List AV} {r:AV} (hc:Rk Tryz.prog B2 f=some t) (hk:T0 Tryz.prog B2 f xs r=true) (hd:Den t r xs):B6 Tryz.prog B2 f xs r:=by
 unfold T0 at hk;split at hk
 ·rename_i fn s hf hs;simp only [Ad,Bool.not_eq_true',beq_iff_eq]at hk;unfold B6;rw [if_pos (Nx f s hs)];exact⟨s,hs,zyA yF Nx hf hs hk.1.1 hc hk.1.2 hk.2 hd⟩
 ·cases hk
section
variable {Rt:Nat→List AV→AV→Prop} {R:AV→Prop} {L:LK} {js:List JK} {ρ:List AV}
theorem pN {i:EL} {b k:Tr} (hL:I8 L) (I:Nat→List AV→Prop) {m:Nat} (h0:I m (i.den ρ)) (FF: ∀m vs,I m vs→b.den Rt R L ((fun us=> ∃m',m'<m∧I m' us)::(fun us=>k.den Rt R L js (ρ++us))::js) (ρ++vs)):(Tr.loop i b k).den Rt R L js ρ:=by
 have hb: ∀W W':JK,(∀vs,W vs→W' vs)→ ∀vs,b.den Rt R L (W::(fun us=>k.den Rt R L js (ρ++us))::js) (ρ++vs)→b.den Rt R L (W'::(fun us=>k.den Rt R L js (ρ++us))::js) (ρ++vs):=
  fun W W' hW vs hv=>b.fu hL hv (.cons hW (DF.refl _))
 have mono: ∀n vs,H5 (fun W vs=>b.den Rt R L (W::(fun us=>k.den Rt R L js (ρ++us))::js) (ρ++vs)) n vs→ ∀n',n≤n'→H5 (fun W vs=>b.den Rt R L (W::(fun us=>k.den Rt R L js (ρ++us))::js) (ρ++vs)) n' vs:=by
  intro n
  induction n with
  |zero=>intro vs h;exact h.elim
  |succ n ih=>
   intro vs h n' hn;cases n' with
   |zero=>omega
   |succ n'=>exact hb _ _ (fun us hu=>ih us hu n' (by omega)) vs h
 have key: ∀m vs,I m vs→H5 (fun W vs=>b.den Rt R L (W::(fun us=>k.den Rt R L js (ρ++us))::js) (ρ++vs)) (m+1) vs:=by
  intro m
  induction m using Nat.strongRecOn with
  |_ m ih=>intro vs hI;exact hb _ _ (fun us ⟨m',hm,hu⟩=>mono _ _ (ih m' hm us hu) m (by omega)) vs (FF m vs hI)
 exact⟨m+1,key m _ h0⟩
theorem aK:I8 (fun _ _ _ _=>False):=fun _ _ _ _ _ _ h=>h
end
@[simp] theorem zCs (ρ:List AV):A5 ρ []↔True:=⟨fun _=>trivial,fun _=>Em ρ⟩
@[simp] theorem zCf (ρ:List AV) (x:E) (b:Bool) (gs:Gd):A5 ρ ((x,b)::gs)↔x.den ρ= .bool b∧A5 ρ gs:=
 ⟨fun h=>⟨h (x,b) (by simp),fun g hg=>h g (by simp [hg])⟩,fun h g hg=>by rcases Ae.1 hg with rfl|hg;exact h.1;exact h.2 g hg⟩
attribute [simp] E.den EL.den Cn.den AV.fld AV.proj AV.deref AV.len AV.slen AV.idx AV.nth AV.ew AV.iy AV.conv AV.bin AV.bbin AV.sbin AV.app AV.c6 AV.rep
@[simp] theorem zAL (cs:List AV):(AV.agg cs).cells=cs:=rfl
@[simp] theorem zBy (k:IntKind) (n:Int):(AV.int k n).cells= [.int k n]:=rfl
@[simp] theorem zAG (b:Bool):(AV.bool b).cells= [.bool b]:=rfl
@[simp] theorem zAP (s:List UInt8):(AV.str s).cells= [.str s]:=rfl
@[simp] theorem zBJ (xs:List AV):(AV.sl xs).cells= [.sl xs]:=rfl
@[simp] theorem zAI (k:IntKind) (n:Int):(AV.int k n).scalar=true:=rfl
@[simp] theorem zAp (b:Bool):(AV.bool b).scalar=true:=rfl
@[simp] theorem zAF (s:List UInt8):(AV.str s).scalar=true:=rfl
@[simp] theorem zB1 (b c d:Bool):AV.cond (.bool b) (.bool c) (.bool d)= .bool (bif b then c else d):=by cases b<;>rfl
theorem zsU {y:AV} (h:y.scalar=true):y.cells= [y]:=by cases y<;>first|rfl|simp [AV.scalar]at h
theorem B3 {n:Int} (h1: -9223372036854775808≤n) (h2:n≤9223372036854775807):IntKind.i64.wrap n=n:=by rw [IntKind.wrap_i64];omega
end Go.Proofs.YtollgpkegmbpmaaGreatDoor
end
section
namespace Go.Proofs.YtollgpkegmbpmaaGreatDoor
open Go.RowKit
section
variable {Rt:Nat→List AV→AV→Prop} {R:AV→Prop} {L:LK} {js:List JK} {ρ:List AV}
theorem CY {gs:Gd} {c:Cn} {k:Tr} (h:A5 ρ gs→c.den ρ) (hk:k.den Rt R L js ρ):(Tr.bw gs c k).den Rt R L js ρ:=⟨h,hk⟩
theorem dW {gs:Gd} {f:Nat} {args:EL} {k:Tr} {r:AV} (h:A5 ρ gs→Rt f (args.den ρ) r) (hk:k.den Rt R L js (ρ++ [r])):(Tr.call gs (.inl f) args k).den Rt R L js ρ:=⟨r,h,hk⟩
theorem bY {gs:Gd} {x:E} {args:EL} {k:Tr} {r:AV} (h:A5 ρ gs→ ∃g caps,x.den ρ= .fn g caps∧Rt (1000000+g) (args.den ρ++caps) r∧ ∀y∈r.cells,y.scalar=true) (hk:k.den Rt R L js (ρ++ [r])):(Tr.call gs (.inr x) args k).den Rt R L js ρ:=⟨r,h,hk⟩
theorem FW {c:E} {a b:Tr} {t:Bool} (h:c.den ρ= .bool t) (ha:t=true→a.den Rt R L js ρ) (hb:t=false→b.den Rt R L js ρ):(Tr.ite c a b).den Rt R L js ρ:=⟨t,h,ha,hb⟩
theorem KD {r:E} (h:R (r.den ρ)):(Tr.ret r).den Rt R L js ρ:=h
theorem Sj {es:EL} {j:JK} (h:j (es.den ρ)):(Tr.jmp 0 es).den Rt R L (j::js) ρ:=h
theorem dX {es:EL} {i j:JK} (h:j (es.den ρ)):(Tr.jmp 1 es).den Rt R L (i::j::js) ρ:=h
end
def rQ (cn:Nat) (xs:List AV):Prop:= ∀x∈xs,∃cs,x= .agg cs∧cs.length=cn
theorem rQ.at {cn:Nat} {xs:List AV} (h:rQ cn xs) {q:Nat} (hq:q<xs.length): ∃cs,xs[q]= .agg cs∧cs.length=cn:=h _ (List.getElem_mem hq)
section
variable {Rt:Nat→List AV→AV→Prop} {R:AV→Prop} {L:LK} {js:List JK} {ρ:List AV} {α β σ τ:Type}
theorem xO {x:E} {sz:Nat} {xs:List α} (f:α→AV) (hx:x.den ρ= .sl (xs.map f)) (hf: ∀y,(f y).cells.length=sz∧ ∀z∈(f y).cells,z.scalar=true):Cn.den ρ (.flatS x sz):=⟨_,hx,by simp only [List.mem_map];rintro _ ⟨y,_,rfl⟩;exact hf y⟩
end
@[simp] def Ol (n:Int):AV:= .int .u8 n
@[simp] def Ja (x:List UInt8):AV:= .str x
attribute [simp] B8 PZ AV.sidx AV.aeq AV.leq AV.seq AV.sk AV.da AV.bytes AV.text
end Go.Proofs.YtollgpkegmbpmaaGreatDoor
end
section
namespace Go.Proofs.YtollgpkegmbpmaaGreatDoor
open Go.RowKit
section
variable {P:Program} {w:World}
theorem Db.iu {ts:List TypeId} {vs:List Value} {xs:List AV} {rf lf hs:List Nat} (h:Db P w ts [] [] vs xs rf lf hs): ∀(ms:List PM) (lo:List Bool),(∀m∈ms,m= .ro)→Db P w ts ms lo vs xs rf lf hs:=by
 generalize hm:([]:List PM)=m0 at h;generalize hn:([]:List Bool)=n0 at h
 induction h with
 |nil=>intro ms lo _;exact .nil
 |lent h1 _ _ _ _=>subst hn;cases h1
 | @cons t ts ms' lo' v vs x xs f h rf lf hs AZ _ ih=>
  subst hm;subst hn;intro ms lo D4;refine .cons ?_ (ih rfl rfl ms.tail lo.tail fun m hm=>D4 m (List.mem_of_mem_tail hm));have:ms.headD .ro= .ro:=by cases ms with|nil=>rfl|cons m ms=>exact D4 m (by simp)
  rw [this];exact AZ
 |free h1 _ ih=>subst hm;subst hn;intro ms lo D4;exact .free h1 (ih rfl rfl ms.tail lo.tail fun m hm=>D4 m (List.mem_of_mem_tail hm))
theorem C8.iu {ts:List TypeId} {ms:List PM} {vs:List Value} {Bs:List AV} {f o:List Nat} (h:C8 P w ts ms vs Bs f o) (D4: ∀m∈ms,m= .ro):C8 P w ts [] vs Bs f o:=by
 have hd: ∀{ms:List PM},(∀m∈ms,m= .ro)→ms.headD .ro= .ro:=by intro ms h;cases ms with|nil=>rfl|cons m ms=>exact h m (by simp)
 induction h with
 |nil=>exact .nil
 |ro _ _ ih=>exact .ro rfl (ih fun m hm=>D4 m (List.mem_of_mem_tail hm))
 |va h9 _ _=>rw [hd D4]at h9;cases h9
 |mu h9 _ _ _ _=>rw [hd D4]at h9;cases h9
 |bx h9 _ _ _ _ _ _ _ _=>rw [hd D4]at h9;cases h9
end
noncomputable def eZ (f:Nat) (r:AV):Bool:=
 match Tryz.prog.funcs[f]?,B2 f with
 |some fn,some s=>s.b8.all (fun m=>match m with| .ro=>true|_=>false)&&s.ft.isEmpty&&(match fn.resultTypes.toList with| [t]=> !F2 Tryz.prog t s.res|_=>false)&&KB Tryz.prog fn {b8:= [],res:= []} r
 |_,_=>false
theorem zwd {f:Nat} {xs:List AV} {r:AV} (h:B6 Tryz.prog B2 f xs r) (hp:eZ f r=true):B6 Tryz.prog B2 (1000000+f) xs r:=by
 unfold eZ at hp;split at hp
 ·rename_i fn s hf hs;simp only [Ad,AS]at hp;obtain⟨⟨⟨h1,CV⟩,h2⟩,h3⟩:=hp;have CV:s.ft= []:=by simpa using CV
  have EN: ∀m∈s.b8,m= .ro:=fun m hm=>by
   have:=h1 m hm;split at this
   ·rfl
   ·cases this
  unfold B6 at h ⊢;rw [if_pos (Nx f s hs)]at h;rw [if_neg (by omega),Nat.add_sub_cancel_left];obtain⟨s',A4,fn',QA,hb,hn,_,hl,_,hc⟩:=h;rw [hs]at A4;cases A4;rw [hf]at QA;cases QA;rw [CV]at hc;refine⟨fn,hf,hb,hn,h3,hl,by simp,fun w vs rf lf A4 As hd uI BW Dv=>(hc w vs rf lf A4 (As.iu _ _ EN) hd uI BW Dv).mono ?_⟩;rintro e w' ⟨v,rfl,⟨R,Bs,f1,o1,f2,o2,e1,e2,e3,e4,e5,e6⟩,hm⟩;rw [CV]at e3;refine⟨v,rfl,⟨R,Bs,f1,o1,f2,o2,e1, ?_,e3.iu EN,e4,e5,e6⟩,hm⟩;unfold JJ at e2 ⊢;split at h2
  ·rename_i t ht;rw [ht]at e2 ⊢;simp only at e2 ⊢;unfold Ef at e2 ⊢;have h2:F2 Tryz.prog t s.res=false:=by simpa using h2
   rw [if_neg (by rw [h2];simp)]at e2;rw [if_neg (by simp [F2])];exact e2
  ·cases h2
 ·cases hp
section
variable {Rt:Nat→List AV→AV→Prop} {R:AV→Prop} {L:LK} {js:List JK} {ρ:List AV}
theorem qE {i:EL} {b k:Tr} (hL:I8 L) (n:Nat) (st:Nat→List AV) (J:Nat→Prop) (hJ:J 0) (h0:i.den ρ=st 0) (hb: ∀q,q≤n→J q→ ∀W:JK,(q<n→J (q+1)→W (st (q+1)))→b.den Rt R L (W::(fun us=>k.den Rt R L js (ρ++us))::js) (ρ++st q)):(Tr.loop i b k).den Rt R L js ρ:=by refine pN hL (fun m vs=> ∃q,q+m=n∧vs=st q∧J q) (m:=n) ⟨0,by omega,h0,hJ⟩ ?_;rintro m vs ⟨q,hq,rfl,hj⟩;exact hb q (by omega) hj _ fun Ax Iu=>⟨m-1,by omega,q+1,by omega,rfl,Iu⟩
end
def S1 (cn:Nat):Tr:=
 .bw [] (.dfd (.len (.var 0)))<|
 .loop (.cons (.int .i64 (0)) .nil) (
  .bw [] (.dfd (.bin .lss (.var 2) (.len (.var 0))))<|
  .ite (.bin .lss (.var 2) (.len (.var 0))) (
  .bw [] (.inb (.var 2) (.var 0) cn)<|
  .call [] (.inr (.var 1)) (.cons (.fld (.idx (.var 0) (.var 2)) 0 cn true) .nil)<|
  .ite (.var 3) (
   .ret (.var 2)) (
   .bw [] (.dfd (.bin .add (.var 2) (.int .i64 (1))))<|
   .jmp 0 (.cons (.bin .add (.var 2) (.int .i64 (1))) .nil))) (
  .jmp 1 .nil)) (
  .ret (.int .i64 (-1)))
def fJ:Tr:=
 .bw [] (.dfd (.len (.var 0)))<|
 .loop (.cons (.int .i64 (0)) .nil) (
  .bw [] (.dfd (.bin .lss (.var 2) (.len (.var 0))))<|
  .ite (.bin .lss (.var 2) (.len (.var 0))) (
  .bw [] (.inb (.var 2) (.var 0) 1)<|
  .call [] (.inr (.var 1)) (.cons (.fld (.idx (.var 0) (.var 2)) 0 1 false) .nil)<|
  .ite (.var 3) (
   .ret (.var 2)) (
   .bw [] (.dfd (.bin .add (.var 2) (.int .i64 (1))))<|
   .jmp 0 (.cons (.bin .add (.var 2) (.int .i64 (1))) .nil))) (
  .jmp 1 .nil)) (
  .ret (.int .i64 (-1)))
def Et {α:Type} (p:α→Option Bool):List α→Int→Option Int
 | [],_=>some (-1)
 |x::xs,i=>(p x).bind fun b=>if b=true then some i else Et p xs (i+1)
noncomputable def FH {α:Type} (xs:List α) (p:α→Option Bool):Option Int:=req (xs.length≤9223372036854775806) (Et p xs 0)
noncomputable def IQ {α:Type} (xs:List α) (p:α→Option Bool):Option Bool:=(FH xs p).bind fun i=>some (decide (i≥0))
noncomputable def eT {α:Type} (bytes:Nat) (xs:List α):Option (List α):=req ((xs.length:Int)*bytes≤140737488355328∧(xs.length:Int)≤140737488355328) (some xs)
theorem oA {α:Type} {p:α→Option Bool} {l:List α} {r:Int} {q:Nat} (hq:q<l.length) (h:Et p (l.drop q) q=some r): ∃b,p l[q]=some b∧(b=true→r=q)∧(b=false→Et p (l.drop (q+1)) ((q+1:Nat):Int)=some r):=by
 rw [List.drop_eq_getElem_cons hq]at h;obtain⟨b,hb,h⟩:=JG h;refine⟨b,hb, ?_, ?_⟩
 ·rintro rfl;simpa using h.symm
 ·rintro rfl;simpa using h
theorem eU {α:Type} {av:α→AV} {l:List α} {p:α→Option Bool} {cn g:Nat} {caps:List AV} {r:Int} (hs: ∀x,∃cs,av x= .agg cs∧cs.length=cn) (h:FH l p=some r) (hf: ∀x b,p x=some b→B6 Tryz.prog B2 (1000000+g) (av x::caps) (.bool b)):Den (S1 cn) (.int .i64 r) [.sl (l.map av), .fn g caps]:=by
 obtain⟨hn,h⟩:=F7 h;unfold Den S1;refine CY (by simp) ?_;refine qE aK l.length (fun q=> [.int .i64 q]) (fun q=>Et p (l.drop q) q=some r) (by simpa using h) (by simp) fun q hq hJ W hW=> ?_;by_cases Ax:q<l.length
 ·obtain⟨cs,hc,hl⟩:=hs l[q];obtain⟨b,hb,Hl,Ig⟩:=oA Ax hJ;refine CY (by simp [B8]) (FW (t:=true) (by simp [B8,Ax]) (fun _=> ?_) (by simp));refine CY (fun _=>⟨.i64,q,l.length,by simp,by omega,by simp,by omega,by simp [Ax,hc,hl]⟩) (bY (r:= .bool b) (fun _=>⟨g,caps,by simp, ?_,by simp⟩) ?_)
  ·have:=hf l[q] b hb;rw [hc]at this;simpa [Ax,hc,←hl]using this
  ·cases b with
   |true=>exact FW (t:=true) (by simp) (fun _=>KD (by simp [Hl rfl])) (by simp)
   |false=>refine FW (t:=false) (by simp) (by simp) fun _=>CY (by simp [B8]) (Sj ?_);have:=hW Ax (Ig rfl);simpa [B8,B3 (n:=(q:Int)+1) (by omega) (by omega)]using this
 ·have HR:q=l.length:=by omega
  subst HR;have hr:r= -1:=by simpa [Et]using hJ.symm
  refine CY (by simp [B8]) (FW (t:=false) (by simp [B8]) (by simp) fun _=>dX ?_);exact KD (by simp [hr])
theorem zyL {α:Type} {av:α→AV} {l:List α} {p:α→Option Bool} {g:Nat} {caps:List AV} {r:Int} (hs: ∀x,(av x).cells= [av x]) (h:FH l p=some r) (hf: ∀x b,p x=some b→B6 Tryz.prog B2 (1000000+g) (av x::caps) (.bool b)):Den fJ (.int .i64 r) [.sl (l.map av), .fn g caps]:=by
 obtain⟨hn,h⟩:=F7 h;unfold Den fJ;refine CY (by simp) ?_;refine qE aK l.length (fun q=> [.int .i64 q]) (fun q=>Et p (l.drop q) q=some r) (by simpa using h) (by simp) fun q hq hJ W hW=> ?_;by_cases Ax:q<l.length
 ·obtain⟨b,hb,Hl,Ig⟩:=oA Ax hJ;refine CY (by simp [B8]) (FW (t:=true) (by simp [B8,Ax]) (fun _=> ?_) (by simp));refine CY (fun _=>⟨.i64,q,l.length,by simp,by omega,by simp,by omega,by simp [Ax,hs]⟩) (bY (r:= .bool b) (fun _=>⟨g,caps,by simp, ?_,by simp⟩) ?_)
  ·have:=hf l[q] b hb;simpa [Ax,hs]using this
  ·cases b with
   |true=>exact FW (t:=true) (by simp) (fun _=>KD (by simp [Hl rfl])) (by simp)
   |false=>refine FW (t:=false) (by simp) (by simp) fun _=>CY (by simp [B8]) (Sj ?_);have:=hW Ax (Ig rfl);simpa [B8,B3 (n:=(q:Int)+1) (by omega) (by omega)]using this
 ·have HR:q=l.length:=by omega
  subst HR;have hr:r= -1:=by simpa [Et]using hJ.symm
  refine CY (by simp [B8]) (FW (t:=false) (by simp [B8]) (by simp) fun _=>dX ?_);exact KD (by simp [hr])
def WD (f:Nat):Tr:=
 .call [] (.inl f) (.cons (.var 0) (.cons (.var 1) .nil))<|
 .bw [] (.dfd (.bin .geq (.var 2) (.int .i64 (0))))<|
 .ret (.bin .geq (.var 2) (.int .i64 (0)))
theorem rI {α:Type} {l:List α} {p:α→Option Bool} {f:Nat} {x y:AV} {r:Bool} (h:IQ l p=some r) (hf: ∀i,FH l p=some i→B6 Tryz.prog B2 f [x,y] (.int .i64 i)):Den (WD f) (.bool r) [x,y]:=by obtain⟨i,hi,h⟩:=JG h;unfold Den WD;refine dW (fun _=>by simpa using hf i hi) (CY (by simp [B8]) (KD ?_));simp only [Af]at h;simp [B8,←h]
def fF (bytes sz:Nat):Tr:=
 .bw [] (.dfd (.len (.var 0)))<|
 .bt [] (.var 0)<|
 .ite (.var 1) (
  .ret (.lst .nil)) (
  .bw [] (.room (.lst .nil) (.var 0) bytes)<|
  .bw [] (.flatS (.var 0) sz)<|
  .ret (.app (.lst .nil) (.var 0)))
theorem zxh {α:Type} {av:α→AV} {xs r:List α} {bytes sz:Nat} (hs: ∀x,(av x).cells.length=sz∧ ∀z∈(av x).cells,z.scalar=true) (h:eT bytes xs=some r):Den (fF bytes sz) (.sl (r.map av)) [.sl (xs.map av)]:=by
 obtain⟨hq,h⟩:=F7 h;cases h;unfold Den fF;refine CY (by simp) fun b hb=> ?_;cases b with
 |true=>have:=hb (by simp) rfl;exact FW (t:=true) (by simp) (fun _=>KD (by simpa using this.symm)) (by simp)
 |false=>exact FW (t:=false) (by simp) (by simp) fun _=>CY (fun _=>⟨0,xs.length,by simp,by simp,by simpa using hq.1,by simpa using hq.2⟩) (CY (fun _=>xO (xs:=xs) av (by simp) hs) (KD (by simp)))
end Go.Proofs.YtollgpkegmbpmaaGreatDoor
end
section
namespace Go.Proofs.YtollgpkegmbpmaaGreatDoor
open Go.ChangeShapes Go.WideShapes Go.ChangeAt Go.RowKit
theorem zyo {P:Program} {w:World}:Db P w [] [] [] [] [] [] [] []:= .nil
theorem oZ {P:Program} {w:World} {t:TypeId} {ts:List TypeId} {v:Value} {vs:List Value} {x:AV} {xs:List AV} {f rf:List Nat} (h:Rd w [v] [x] f) (k:Db P w ts [] [] vs xs rf [] []):Db P w (t::ts) [] [] (v::vs) (x::xs) (f++rf) [] []:=
 Db.cons (h:= []) (hs:= []) (ms:= []) (lo:= []) ⟨h,rfl⟩ k
theorem zys {P:Program} {sg:BC} {f:Nat} {fn:Func} {t:TypeId} {xs:List AV} (h:B6 P sg f xs (.bool true)) (hf:f<1000000) {s:GL} (hs:sg f=some s) (CV:s.ft= []) (EN: ∀m∈s.b8,m= .ro) (EI:F2 P t s.res=false) (Gi:P.funcs[f]?=some fn) (hr:fn.resultTypes.toList= [t])
  {w:World} {vs:List Value} {rf:List Nat} (ha:Db P w fn.params.toList [] [] vs xs rf [] []) (Dv:E9.n≤w.heap.size∧E9.K w):
  Calls P f vs.toArray w fun e w'=>e= .returned (.bool true)∧Below w.heap.size w w':=by
 unfold B6 at h;rw [if_pos hf]at h;obtain⟨s',A4,fn',Il,_,_,_,_,_,hc⟩:=h;rw [hs]at A4;obtain rfl:=Option.some.inj A4;rw [Gi]at Il;obtain rfl:=Option.some.inj Il;refine(hc w vs rf [] [] (by rw [CV,List.append_nil];exact ha.iu _ _ EN) (by simp) (by simp) (by simp) ⟨Dv.1,Dv.2,by simp⟩).mono fun e w' ⟨v,he,hp⟩=> ?_;obtain⟨⟨R,bs,f1,o1,f2,o2,hR,AP,_⟩,hm⟩:=hp;have tV:R= .bool true:=by
  cases bs with
  |nil=>exact hR.symm
  |cons=>cases hR
 subst tV;rw [hr]at AP;have h2:Ef P w' t s.res v (.bool true) f1 o1:=AP;unfold Ef at h2;rw [EI]at h2;obtain⟨h3,_⟩:=h2;have:v= .bool true:=by cases h3;rfl
 subst this;exact⟨he,hm.below⟩
section
variable {P:Program} {t:TypeId} {Q:List AV→Prop} {H:Type} {enc:TypeId × Value→H} {w:World} {spare:Nat→Bool} {held:Bool} {v:Value} {d:DataW H} {p:List MemPlace} {r:Reach} {base:Nat}
theorem zz1 (hO:GK P t Q) (hc:v.cells= #[v]) (h:DataW.Trod enc P w 0 spare held t v d p): ∃x f,Rd w [v] [x] f∧Q [x]:=by
 obtain⟨n,h⟩:=h;rw [hc]at h;obtain⟨_,_,xs,f,hr,hq⟩:=hO.2 _ _ _ _ _ _ _ _ h;have hl:=hr.len
 match xs,hl with
 | [x],_=>exact⟨x,f,hr,hq⟩
theorem oB {e:TypeId} (hO:GK P t Q) (ht:P.underlying t=some (.slice e)) (hv:Value.okWide P w r base t v) (h:DataW.Trod enc P w 0 spare held t v d p): ∃x f,Rd w [v] [x] f∧Q [x]:=by obtain⟨a,l,c,rfl⟩:=okWide_slice ht hv;exact zz1 hO rfl h
end
theorem yY {a b:Bool} (ha:a=true) (hb:b=true):(a&&b)=true:=by rw [ha,hb];rfl
def NO (n:Int):Prop:=0≤n∧n≤255
def TU {α:Type} (ok:α→Prop) (l:List α):Prop:=l.length≤9223372036854775807∧ ∀x∈l,ok x
theorem zJ {n:Int} (h:Eg .u8 n):NO n:=by unfold Eg at h;simp only [IntKind.wrap,IntKind.bits,IntKind.signed]at h;unfold NO;simp at h;omega
section
variable {P:Program} {t e:TypeId} {α:Type} {ok:α→Prop} {av:α→AV}
theorem zE (ht:P.underlying t=some (.int .u8)) (hc:P.cellsOf t=1):GK P t fun xs=> ∃n,NO n∧xs= [Ol n]:=
 (zzE ht hc).mono fun _ ⟨n,h,e⟩=>⟨n,zJ h,e⟩
theorem pW: ∀{ys:List AV},(∀y∈ys,Jd false (fun xs=> ∃c,ok c∧xs= [av c]) y)→ ∃l:List α,(∀c∈l,ok c)∧ys=l.map av
 | [],_=>⟨[],by simp,rfl⟩
 |y::ys,h=>by obtain⟨l,hl,rfl⟩:=pW fun z hz=>h z (List.mem_cons_of_mem _ hz);have h0:=h y (List.mem_cons_self ..);simp only [Jd,BH,if_false]at h0;obtain⟨_,c,hk,hc⟩:=h0;exact⟨c::l,by simpa using⟨hk,hl⟩,by simp at hc;simp [hc]⟩
theorem zR (ht:P.underlying t=some (.slice e)) (hc:P.cellsOf t=1) (K2:P.cellsOf e=1) (he:GK P e fun xs=> ∃c,ok c∧xs= [av c]):GK P t fun xs=> ∃l:List α,TU ok l∧xs= [.sl (l.map av)]:=
 (zvZ false ht hc he (.inr K2)).mono fun _ ⟨ys,hl,hy,e⟩=>by obtain⟨l,hk,rfl⟩:=pW hy;exact⟨l,⟨by simpa using hl,hk⟩,e⟩
end
end Go.Proofs.YtollgpkegmbpmaaGreatDoor
end
section
namespace Go.Proofs.YtollgpkegmbpmaaGreatDoor
open Go.RowKit
set_option maxRecDepth 100000
structure Bk where
 bh:List UInt8
 al:List UInt8
@[simp] def KI (x:Bk):AV:= .agg [.str x.bh, .str x.al]
structure Ac where
 ab:List UInt8
 aw:List UInt8
 a8:Bool
@[simp] def zzV (x:Ac):AV:= .agg [.str x.ab, .str x.aw, .bool x.a8]
structure AH where
 ay:List Int
 ch:Int
 az:Int
@[simp] def xT (x:AH):AV:= .agg [.sl (x.ay.map Ol), .int .i64 x.ch, .int .u64 x.az]
structure AX where
 ae:List UInt8
 cy:Int
 bc:Int
@[simp] def iV (x:AX):AV:= .agg [.str x.ae, .int .i64 x.cy, .int .i64 x.bc]
structure Aj where
 ae:List UInt8
 ax:List (List UInt8)
 aj:List AX
@[simp] def xS (x:Aj):AV:= .agg [.str x.ae, .sl (x.ax.map Ja), .sl (x.aj.map iV)]
structure An where
 ah:List (List UInt8)
@[simp] def zU (x:An):AV:= .agg [.sl (x.ah.map Ja)]
structure Ba where
 af:Int
 bg:An
 bj:An
@[simp] def zy1 (x:Ba):AV:= .agg [.int .i64 x.af, .sl (x.bg.ah.map Ja), .sl (x.bj.ah.map Ja)]
structure Bo where
 af:Int
 bb:Ba
 a7:List UInt8
 ca:List UInt8
 cg:List UInt8
@[simp] def yP (x:Bo):AV:= .agg [.int .i64 x.af, .int .i64 x.bb.af, .sl (x.bb.bg.ah.map Ja), .sl (x.bb.bj.ah.map Ja), .str x.a7, .str x.ca, .str x.cg]
structure AB where
 af:Int
 ab:List UInt8
 aw:List UInt8
 iw:Int
@[simp] def zO (x:AB):AV:= .agg [.int .i64 x.af, .str x.ab, .str x.aw, .int .i64 x.iw]
structure By where
 ab:List UInt8
 aw:List UInt8
 en:Bool
@[simp] def yH (x:By):AV:= .agg [.str x.ab, .str x.aw, .bool x.en]
end Go.Proofs.YtollgpkegmbpmaaGreatDoor
end
section
namespace Go.Proofs.YtollgpkegmbpmaaGreatDoor
open Go.ChangeShapes Go.WideShapes Go.ChangeAt Go.RowKit
set_option maxRecDepth 100000
theorem w5:GK Tryz.prog 5 fun xs=> ∃n,NO n∧xs= [Ol n]:=zE Tryz.underlying5 (by kernel_rfl)
theorem iJ:GK Tryz.prog 22 fun xs=> ∃l:List Int,TU NO l∧xs= [.sl (l.map Ol)]:=zR Tryz.underlying22 (by kernel_rfl) (by kernel_rfl) w5
end Go.Proofs.YtollgpkegmbpmaaGreatDoor
end
section
namespace Go.Proofs.YtollgpkegmbpmaaGreatDoor
open Go.RowKit
set_option maxRecDepth 100000
def Jt {α:Type} (p:α→Option Bool):List α→Option (List α)
 | []=>some []
 |x::xs=>(p x).bind fun b=>(Jt p xs).bind fun r=>some (if b=true then r else x::r)
noncomputable def Vv {α:Type} (xs:List α) (p:α→Option Bool):Option (List α):=req (xs.length≤9223372036854775806) (Jt p xs)
theorem mW {α:Type} {p:α→Option Bool} (q:α→Bool): ∀{l:List α},(∀x∈l,p x=some (q x))→Jt p l=some (l.filter fun x=> !q x)
 | [],_=>rfl
 |x::l,h=>by have e:=mW (p:=p) q (l:=l) fun y hy=>h y (List.mem_cons_of_mem _ hy);simp only [Jt,h x (by simp),e,Ab,List.filter_cons];cases q x<;>rfl
theorem zsa {α:Type} {p:α→Option Bool} {l r:List α} {q:Nat} (hq:q<l.length) (h:Jt p (l.drop q)=some r): ∃b r',p l[q]=some b∧Jt p (l.drop (q+1))=some r'∧r=if b=true then r' else l[q]::r':=by rw [List.drop_eq_getElem_cons hq]at h;obtain⟨b,hb,h⟩:=JG h;obtain⟨r',hr,h⟩:=JG h;exact⟨b,r',hb,hr,by simpa using h.symm⟩
theorem mI {α:Type} {p:α→Option Bool}: ∀{l r:List α} (i:Int),Jt p l=some r→(Et p l i=some (-1)∧r=l)∨ ∃k r',k<l.length∧Et p l i=some (i+(k:Nat))∧Jt p (l.drop (k+1))=some r'∧r=l.take k++r'
 | [],r,i,h=>by cases h;exact .inl ⟨rfl,rfl⟩
 |x::l,r,i,h=>by
  obtain⟨b,hb,h⟩:=JG h;obtain⟨r1,hr,h⟩:=JG h;cases b with
  |true=>
   have:r1=r:=by simpa using h
   subst this;exact .inr ⟨0,r1,by simp,by simp [Et,hb],by simpa using hr,by simp⟩
  |false=>
   have:r=x::r1:=by simpa using h.symm
   subst this;rcases mI (i+1) hr with⟨h1,rfl⟩|⟨k,r',h1,h2,h3,rfl⟩
   ·exact .inl ⟨by simp [Et,hb,h1],rfl⟩
   ·exact .inr ⟨k+1,r',by simp;omega,by simp [Et,hb,h2];omega,by simpa using h3,by simp⟩
def iL (ck:List Cn) (k:Tr):Tr:=ck.foldr (fun c k=> .bw [] c k) k
section
variable {Rt:Nat→List AV→AV→Prop} {R:AV→Prop} {L:LK} {js:List JK} {ρ:List AV}
theorem qB: ∀{ck:List Cn} {k:Tr},(∀c∈ck,c.den ρ)→k.den Rt R L js ρ→(iL ck k).den Rt R L js ρ
 | [],_,_,hk=>hk
 |c::ck,k,h,hk=>⟨fun _=>h c (by simp),qB (fun q hq=>h q (by simp [hq])) hk⟩
theorem zyj {t k:Tr} {K:List AV→Prop} (hK: ∀vs,K vs→k.den Rt R L js (ρ++vs)) (ht: ∀j:JK,(∀vs,K vs→j vs)→t.den Rt R L (j::js) ρ):(Tr.join t k).den Rt R L js ρ:=ht _ hK
end
def fN (fi cn:Nat) (g:Bool) (X:E) (ck:List Cn) (z:E):Tr:=
 .call [] (.inl fi) (.cons (.var 0) (.cons (.var 1) .nil))<|
 .bw [] (.dfd (.bin .eql (.var 2) (.int .i64 (-1))))<|
 .ite (.bin .eql (.var 2) (.int .i64 (-1))) (
  .ret (.var 0)) (
  .bw [] (.dfd (.bin .add (.var 2) (.int .i64 (1))))<|
  .loop (.cons (.var 2) (.cons (.bin .add (.var 2) (.int .i64 (1))) (.cons (.var 0) .nil))) (
  .bw [] (.dfd (.len (.var 5)))<|
  .bw [] (.dfd (.bin .lss (.var 4) (.len (.var 5))))<|
  .ite (.bin .lss (.var 4) (.len (.var 5))) (
   .join (
   .bw [] (.inb (.var 4) (.var 5) cn)<|
   iL ck<|
   .call [] (.inr (.var 1)) (.cons X .nil)<|
   .bw [] (.dfd (.not (.var 6)))<|
   .ite (.not (.var 6)) (
    .bw [] (.inb (.var 3) (.var 5) cn)<|
    .bw [] (.flat X cn g)<|
    .bw [] (.flat (.fld (.idx (.var 5) (.var 3)) 0 cn g) cn g)<|
    .bw [] (.dfd (.bin .add (.var 3) (.int .i64 (1))))<|
    .jmp 0 (.cons (.bin .add (.var 3) (.int .i64 (1))) (.cons (.set (.var 5) (.var 3) (.put (.idx (.var 5) (.var 3)) 0 X g)) .nil))) (
    .jmp 0 (.cons (.var 3) (.cons (.var 5) .nil)))) (
   .bw [] (.dfd (.bin .add (.var 4) (.int .i64 (1))))<|
   .jmp 0 (.cons (.var 6) (.cons (.bin .add (.var 4) (.int .i64 (1))) (.cons (.var 7) .nil))))) (
   .jmp 1 (.cons (.var 3) (.cons (.var 5) .nil)))) (
  .bw [] (.win (.var 4) (.var 3) (.len (.var 4)))<|
  .bw [] (.win (.var 4) (.var 3) (.len (.var 4)))<|
  .bw [] (.dfd (.bin .sub (.len (.var 4)) (.var 3)))<|
  .bw [] (.win (.app (.win (.var 4) (.int .i64 (0)) (.var 3)) (.rep (.bin .sub (.len (.var 4)) (.var 3)) z)) (.int .i64 (0)) (.var 3))<|
  .ret (.win (.app (.win (.var 4) (.int .i64 (0)) (.var 3)) (.rep (.bin .sub (.len (.var 4)) (.var 3)) z)) (.int .i64 (0)) (.var 3))))
theorem zzB {α:Type} {av:α→AV} {l r:List α} {p:α→Option Bool} {fi cn g9:Nat} {g:Bool} {X z:E} {ck:List Cn} {caps:List AV}
  (hs: ∀x,(av x).cells.length=cn∧(∀z∈(av x).cells,z.scalar=true)∧(g=true→ ∃cs,av x= .agg cs)∧(g=false→(av x).scalar=true)) (hcn:0<cn)
  (hX: ∀(a b c d:AV) (j:Nat) (ys:List AV) (x:α) (tl:List AV),ys[j]?=some (av x)→X.den ([a,b,c,d, .int .i64 j, .sl ys]++tl)=av x)
  (JX: ∀(a b c d:AV) (j:Nat) (ys:List AV) (x:α),ys[j]?=some (av x)→ ∀q∈ck,q.den [a,b,c,d, .int .i64 j, .sl ys])
  (h:Vv l p=some r) (hi: ∀i,FH l p=some i→B6 Tryz.prog B2 fi [.sl (l.map av), .fn g9 caps] (.int .i64 i))
  (hf: ∀x b,p x=some b→B6 Tryz.prog B2 (1000000+g9) (av x::caps) (.bool b)):Den (fN fi cn g X ck z) (.sl (r.map av)) [.sl (l.map av), .fn g9 caps]:=by
 obtain⟨hn,h⟩:=F7 h;unfold Den fN;have J8: ∀x y:α,(av y).da 0 (av x) g=av x:=by
  intro x y;cases g with
  |false=>rfl
  |true=>
   obtain⟨cs,Bd⟩:=(hs x).2.2.1 rfl;have e1:=(hs x).1;have e2:=(hs y).1;have e3:(av x).cells=cs:=by rw [Bd];rfl
   have e4:(av y).cells.drop (0+cs.length)= []:=List.drop_eq_nil_of_le (by rw [e2,←e1,e3];omega);show AV.agg ((av y).cells.take 0++(av x).cells++(av y).cells.drop (0+(av x).cells.length))=av x;rw [e3,e4,List.append_nil,List.take_zero,List.nil_append,Bd]
 have Xv: ∀x:α,(av x).fld 0 cn g=av x:=by
  intro x;cases g with
  |false=>have:=zsU ((hs x).2.2.2 rfl);simp [AV.fld,this]
  |true=>obtain⟨cs,Bd⟩:=(hs x).2.2.1 rfl;have e1:=(hs x).1;rw [Bd]at e1 ⊢;simp only [AV.fld,if_true,AV.cells]at e1 ⊢;rw [List.drop_zero,List.take_of_length_le (by omega)]
 have Bv: ∀(e:E) (ρ:List AV) (x:α),e.den ρ=av x→Cn.den ρ (.flat e cn g):=fun e ρ x he=>by
  show(e.den ρ).cells.length=cn∧(∀y∈(e.den ρ).cells,y.scalar=true)∧(g=true→ ∃cs,e.den ρ= .agg cs)∧(g=false→(e.den ρ).scalar=true)
  rw [he];exact hs x
 rcases mI 0 h with⟨h1,rfl⟩|⟨k0,r0,N6,h1,h2,rfl⟩
 ·refine dW (r:= .int .i64 (-1)) (fun _=>hi _ (by unfold FH;rw [show req (r.length≤9223372036854775806) (Et p r 0)=Et p r 0 from if_pos hn];exact h1)) ?_;exact CY (by simp [B8]) (FW (t:=true) (by simp [B8]) (fun _=>KD (by simp)) (by simp))
 ·refine dW (r:= .int .i64 k0) (fun _=>hi _ (by unfold FH;rw [show req (l.length≤9223372036854775806) (Et p l 0)=Et p l 0 from if_pos hn,h1];simp)) ?_;have hw:IntKind.i64.wrap ((k0:Int)+1)=k0+1:=B3 (by omega) (by omega);refine CY (by simp [B8]) (FW (t:=false) (by simp [B8];try omega) (by simp) fun _=>CY (by simp [B8]) ?_);refine pN aK (fun m vs=> ∃(j:Nat) (K zs r':List α),j+m=l.length∧vs= [.int .i64 K.length, .int .i64 j, .sl (zs.map av)]∧K.length<j∧zs.length=l.length∧zs.take K.length=K∧zs.drop j=l.drop j∧Jt p (l.drop j)=some r'∧l.take k0++r0=K++r') (m:=l.length-(k0+1))
   ⟨k0+1,l.take k0,l,r0,by omega, ?_,by simp;omega,rfl,by simp [Nat.min_eq_left (Nat.le_of_lt N6)],rfl,h2,rfl⟩ ?_
  ·simp [B8,hw,Nat.min_eq_left (Nat.le_of_lt N6)]
  rintro m vs ⟨j,K,zs,r',hj,rfl,hKj,TP,YB,YA,CR,AP⟩;refine CY (by simp) (CY (by simp [B8]) ?_);by_cases Ax:j<l.length
  ·refine FW (t:=true) (by simp [B8,TP,Ax]) (fun _=> ?_) (by simp);obtain⟨b,r2,hb,C6,hP⟩:=zsa Ax CR;have iG:zs[j]?=some l[j]:=by
    have:=congrArg (fun L=>L[0]?) YA;simpa [Ax]using this
   have FT:(zs.map av)[j]?=some (av l[j]):=by simp [iG]
   have Qi:K.length<zs.length:=by omega
   have wO:IntKind.i64.wrap ((j:Int)+1)=j+1:=B3 (by omega) (by omega);have wM:IntKind.i64.wrap ((K.length:Int)+1)=K.length+1:=B3 (by omega) (by omega);refine zyj (K:=fun us=> ∃(K' zs':List α),us= [.int .i64 K'.length, .sl (zs'.map av)]∧K'.length<j+1∧zs'.length=l.length∧zs'.take K'.length=K'∧zs'.drop (j+1)=l.drop (j+1)∧l.take k0++r0=K'++r2) ?_ ?_
   ·rintro us ⟨K',zs',rfl,a1,a2,a3,a4,a5⟩;refine CY (by simp [B8]) (Sj ⟨m-1,by omega,j+1,K',zs',r2,by omega, ?_,a1,a2,a3,a4,C6,a5⟩);simp [B8,wO]
   ·intro J hJ;refine CY (fun _=>⟨.i64,j,zs.length,by simp,by omega,by simp,by omega, ?_⟩) (qB (JX _ _ _ _ j (zs.map av) _ FT) (bY (r:= .bool b) (fun _=>⟨g9,caps,by simp, ?_,by simp⟩) ?_))
    ·simp [AV.nth,iG,(hs l[j]).1]
    ·have e1:=hX (.sl (l.map av)) (.fn g9 caps) (.int .i64 k0) (.int .i64 K.length) j (zs.map av) l[j] [] FT;rw [List.append_nil]at e1;show B6 Tryz.prog B2 (1000000+g9) ([X.den [.sl (l.map av), .fn g9 caps, .int .i64 k0, .int .i64 K.length, .int .i64 j, .sl (zs.map av)]]++caps) (.bool b);rw [e1];exact hf _ _ hb
    ·refine CY (by simp) ?_;have e2:=hX (.sl (l.map av)) (.fn g9 caps) (.int .i64 k0) (.int .i64 K.length) j (zs.map av) l[j] [.bool b] FT;cases b with
     |true=>refine FW (t:=false) (by simp) (by simp) fun _=>Sj (hJ _ ⟨K,zs,by simp,by omega,TP,YB, ?_,by rw [AP,hP];simp⟩);have:=congrArg (List.drop 1) YA;simpa [List.drop_drop]using this
     |false=>
      refine FW (t:=true) (by simp) (fun _=> ?_) (by simp);obtain⟨zk,iH⟩: ∃zk,zs[K.length]?=some zk:=⟨zs[K.length],by simp [Qi]⟩
      have e3:(E.idx (.var 5) (.var 3)).den ([AV.sl (l.map av), .fn g9 caps, .int .i64 k0, .int .i64 K.length, .int .i64 j, .sl (zs.map av)]++ [.bool false])=av zk:=by simp [AV.nth,iH]
      refine CY (fun _=>⟨.i64,K.length,zs.length,by simp,by omega,by simp,by omega, ?_⟩) (CY (fun _=>Bv _ _ _ e2) (CY (fun _=>Bv _ _ zk ?_) (CY (by simp [B8]) (Sj (hJ _ ⟨K++ [l[j]],zs.set K.length l[j], ?_,by simp;omega,by simpa using TP, ?_, ?_,by rw [AP,hP];simp⟩)))))
      ·simp [AV.nth,iH,(hs zk).1]
      ·exact(congrArg (fun y=>AV.fld y 0 cn g) e3).trans (Xv zk)
      ·have e4:(E.set (.var 5) (.var 3) (.put (.idx (.var 5) (.var 3)) 0 X g)).den ([AV.sl (l.map av), .fn g9 caps, .int .i64 k0, .int .i64 K.length, .int .i64 j, .sl (zs.map av)]++ [.bool false])= .sl ((zs.set K.length l[j]).map av):=by
        show AV.c6 _ _ (AV.da ((E.idx (.var 5) (.var 3)).den _) 0 (X.den _) g)=_;rw [e3,e2,J8];simp [AV.c6,List.map_set]
       show EL.den _ (.cons (.bin .add (.var 3) (.int .i64 1)) (.cons (.set (.var 5) (.var 3) (.put (.idx (.var 5) (.var 3)) 0 X g)) .nil))=_;simp only [EL.den];have e5:(E.bin .add (.var 3) (.int .i64 1)).den ([AV.sl (l.map av), .fn g9 caps, .int .i64 k0, .int .i64 K.length, .int .i64 j, .sl (zs.map av)]++ [.bool false])= .int .i64 ((K++ [l[j]]).length:Int):=by simp [B8,wM]
       congr 1;congr 1
      ·rw [Ak,Aw,List.take_add_one,List.take_set_of_le (Nat.le_refl _),YB];simp [Qi]
      ·rw [List.drop_set_of_lt (by omega)];have:=congrArg (List.drop 1) YA;simpa [List.drop_drop]using this
  ·have uW:j=l.length:=by omega
   subst uW;refine FW (t:=false) (by simp [B8,TP]) (by simp) fun _=>dX ?_;have GU:r'= []:=by rw [List.drop_eq_nil_of_le (Nat.le_refl _)]at CR;exact(by simpa [Jt]using CR.symm)
   subst GU;rw [AP,List.append_nil];have Oe:IntKind.i64.wrap ((zs.length:Int)-K.length)=zs.length-K.length:=B3 (by omega) (by omega);have d3:(E.var 3).den ([AV.sl (l.map av),AV.fn g9 caps]++ [AV.int .i64 (k0:Int)]++ [AV.int .i64 (K.length:Int),AV.sl (zs.map av)])= .int .i64 K.length:=by simp
   have d4:(E.var 4).den ([AV.sl (l.map av),AV.fn g9 caps]++ [AV.int .i64 (k0:Int)]++ [AV.int .i64 (K.length:Int),AV.sl (zs.map av)])= .sl (zs.map av):=by simp
   have dm:(E.bin .sub (.len (.var 4)) (.var 3)).den ([AV.sl (l.map av),AV.fn g9 caps]++ [AV.int .i64 (k0:Int)]++ [AV.int .i64 (K.length:Int),AV.sl (zs.map av)])= .int .i64 ((zs.length:Int)-K.length):=by simp [B8,Oe]
   have Kh:Cn.den ([AV.sl (l.map av),AV.fn g9 caps]++ [AV.int .i64 (k0:Int)]++ [AV.int .i64 (K.length:Int),AV.sl (zs.map av)]) (.win (.var 4) (.var 3) (.len (.var 4))):=⟨.i64,K.length, .i64,zs.length,zs.length,d3,by simp,by rw [d4];simp,by omega,by omega,by omega⟩
   have dapp:(E.app (.win (.var 4) (.int .i64 (0)) (.var 3)) (.rep (.bin .sub (.len (.var 4)) (.var 3)) z)).den ([AV.sl (l.map av),AV.fn g9 caps]++ [AV.int .i64 (k0:Int)]++ [AV.int .i64 (K.length:Int),AV.sl (zs.map av)])= .sl ((zs.map av).take K.length++List.replicate (zs.length-K.length) (z.den ([AV.sl (l.map av),AV.fn g9 caps]++ [AV.int .i64 (k0:Int)]++ [AV.int .i64 (K.length:Int),AV.sl (zs.map av)]))):=by show AV.app (AV.win ((E.var 4).den _) (.int .i64 0) ((E.var 3).den _)) (AV.rep ((E.bin .sub (.len (.var 4)) (.var 3)).den _) _)=_;rw [d3,d4,dm];simp only [AV.win,AV.rep,AV.app,Int.toNat_natCast,Int.toNat_zero,List.drop_zero];congr 3;omega
   refine CY (fun _=>Kh) (CY (fun _=>Kh) (CY (fun _=>fun hu=>by have:=dm.symm.trans hu;simp at this) (CY (fun _=>⟨.i64,0, .i64,K.length,zs.length,rfl,d3, ?_,by omega,by omega,by omega⟩) (KD ?_))))
   ·refine(congrArg AV.len dapp).trans ?_;simp only [AV.len,Ak,List.length_take,List.length_map,List.length_replicate];congr 1;omega
   ·refine(congrArg (fun y=>AV.win y (.int .i64 0) (.int .i64 K.length)) dapp).trans ?_;simp only [AV.win,Int.toNat_natCast,Int.toNat_zero,List.drop_zero];rw [List.take_append_of_le_length (by simp;omega),List.take_take,Nat.min_self,←List.map_take,YB]
abbrev tF:Nat→List AV→AV→Prop:=B6 Tryz.prog B2
@[reducible] def Ov:Nat→Type
 |0=>Bk
 |1=>Ac
 |2=>AH
 |3=>AX
 |4=>Aj
 |5=>An
 |6=>Ba
 |7=>Bo
 |8=>AB
 |9=>By
 |_+10=>Unit
@[reducible] def TY:Nat→List Ty
 |0=> [.s, .s]
 |1=> [.s, .s, .b]
 |2=> [.l (.i .u8), .i .i64, .i .u64]
 |3=> [.s, .i .i64, .i .i64]
 |4=> [.s, .l .s, .l (.st 3)]
 |5=> [.l .s]
 |6=> [.i .i64, .l .s, .l .s]
 |7=> [.i .i64, .i .i64, .l .s, .l .s, .s, .s, .s]
 |8=> [.i .i64, .s, .s, .i .i64]
 |9=> [.s, .s, .b]
 |_+10=> []
def Rh: ∀n,Ov n→AV
 |0,x=>KI x
 |1,x=>zzV x
 |2,x=>xT x
 |3,x=>iV x
 |4,x=>xS x
 |5,x=>zU x
 |6,x=>zy1 x
 |7,x=>yP x
 |8,x=>zO x
 |9,x=>yH x
 |_+10,_=> .agg []
def YV: ∀n,Ov n→HL Ov (TY n)
 |0,x=>(x.bh,x.al,())
 |1,x=>(x.ab,x.aw,x.a8,())
 |2,x=>(x.ay,x.ch,x.az,())
 |3,x=>(x.ae,x.cy,x.bc,())
 |4,x=>(x.ae,x.ax,x.aj,())
 |5,x=>(x.ah,())
 |6,x=>(x.af,x.bg.ah,x.bj.ah,())
 |7,x=>(x.af,x.bb.af,x.bb.bg.ah,x.bb.bj.ah,x.a7,x.ca,x.cg,())
 |8,x=>(x.af,x.ab,x.aw,x.iw,())
 |9,x=>(x.ab,x.aw,x.en,())
 |_+10,_=>()
def iK: ∀n,HL Ov (TY n)→Ov n
 |0,x=>⟨x.1,x.2.1⟩
 |1,x=>⟨x.1,x.2.1,x.2.2.1⟩
 |2,x=>⟨x.1,x.2.1,x.2.2.1⟩
 |3,x=>⟨x.1,x.2.1,x.2.2.1⟩
 |4,x=>⟨x.1,x.2.1,x.2.2.1⟩
 |5,x=>⟨x.1⟩
 |6,x=>⟨x.1,⟨x.2.1⟩,⟨x.2.2.1⟩⟩
 |7,x=>⟨x.1,⟨x.2.1,⟨x.2.2.1⟩,⟨x.2.2.2.1⟩⟩,x.2.2.2.2.1,x.2.2.2.2.2.1,x.2.2.2.2.2.2.1⟩
 |8,x=>⟨x.1,x.2.1,x.2.2.1,x.2.2.2.1⟩
 |9,x=>⟨x.1,x.2.1,x.2.2.1⟩
 |_+10,_=>()
theorem xK: ∀n x,Rh n x= .agg (Hj Rh (TY n) (YV n x))
 |0,_=>rfl
 |1,_=>rfl
 |2,_=>rfl
 |3,_=>rfl
 |4,_=>rfl
 |5,_=>rfl
 |6,_=>rfl
 |7,_=>rfl
 |8,_=>rfl
 |9,_=>rfl
 |_+10,_=>rfl
theorem zzI: ∀n h,YV n (iK n h)=h
 |0,_=>rfl
 |1,_=>rfl
 |2,_=>rfl
 |3,_=>rfl
 |4,_=>rfl
 |5,_=>rfl
 |6,_=>rfl
 |7,_=>rfl
 |8,_=>rfl
 |9,_=>rfl
 |_+10,_=>rfl
@[reducible] def Co:HI:=⟨tF,Ov,Rh,TY,YV,iK,xK,zzI⟩
abbrev FS:=FN Co
noncomputable def YG (tb:List FS) (hs:List JM) (o:Option Tr) (ps:List PT) (r:RT) (xs:HP Co.car ps) (hp:Hi Co ps xs):Option (F8 Co.car r):=match o with
 |some t=>Cb tb 100000 (Oi r) t hs (TX ps xs hp) [] []
 |none=>none
theorem iQ {f:Nat} {ps:List PT} {r:RT} {φ:HP Co.car ps→Option (F8 Co.car r)} (tb:List FS) (hs:List JM) (h: ∀xs hp,YG tb hs (Rk Tryz.prog B2 f) ps r xs hp=φ xs) (hk: ∀xs y,T0 Tryz.prog B2 f (Fb Co ps xs) (Fm Co r y)=true) (xs:HP Co.car ps) (y:F8 Co.car r) (hp:Hi Co ps xs) (e:φ xs=some y):Co.Rt f (Fb Co ps xs) (Fm Co r y):=by
 rw [←h xs hp]at e;unfold YG at e;split at e
 ·rename_i t ht;refine KO ht (hk xs y) ?_;unfold Den;rw [←rT ps xs hp];exact Eb tb 100000 (fa:= []) (fun _ h=>nomatch h) (fun _ h=>nomatch h) (fun v hv=>eL r hv) .nil e
 ·cases e
noncomputable def Av (f:Nat) (ps:List PT) (r:RT) (φ:HP Co.car ps→Option (F8 Co.car r)) (tb:List FS) (hs:List JM) (h: ∀xs hp,YG tb hs (Rk Tryz.prog B2 f) ps r xs hp=φ xs:=by intro _ _;kernel_rfl) (hk: ∀xs y,T0 Tryz.prog B2 f (Fb Co ps xs) (Fm Co r y)=true:=by intro _ _;kernel_rfl):FS:=
 ⟨f,ps,r,φ,fun xs y hp e=>iQ tb hs h hk xs y hp e,false,fun h=>by cases h⟩
noncomputable def Lo (d:FS) (h: ∀y,eZ d.f (Fm Co d.r y)=true):FS:=
 ⟨d.f,d.ps,d.r,d.φ,d.ok,true,fun _ xs y hx e=>zwd (d.ok xs y hx e) (h y)⟩
noncomputable def E8 (f:Nat) (ps:List PT) (r:RT) (φ:HP Co.car ps→Option (F8 Co.car r)) (ok: ∀xs y,Hi Co ps xs→φ xs=some y→Co.Rt f (Fb Co ps xs) (Fm Co r y)):FS:=⟨f,ps,r,φ,ok,false,fun h=>by cases h⟩
end Go.Proofs.YtollgpkegmbpmaaGreatDoor
end
section
namespace Go.Proofs.YtollgpkegmbpmaaGreatDoor
open Go.RowKit
theorem Db.rd {P:Program} {w:World} {ts:List TypeId} {ms:List PM} {lo:List Bool} {vs:List Value} {xs:List AV} {rf lf hs:List Nat} (h:Db P w ts ms lo vs xs rf lf hs):lo= []→(∀m∈ms,m= .ro)→Rd w vs xs rf∧hs= []:=by
 induction h with
 |nil=>intro _ _;exact⟨.nil,rfl⟩
 |lent h1 _ _ _ _=>intro BP;subst BP;cases h1
 | @cons t ts ms lo v vs x xs f h rf lf hs AZ _ ih=>
  intro BP D4;subst BP;obtain⟨h1,rfl⟩:=ih rfl fun m hm=>D4 m (List.mem_of_mem_tail hm);have EN:ms.headD .ro= .ro:=by
   cases ms with
   |nil=>rfl
   |cons m ms=>exact D4 m (by simp)
  rw [EN]at AZ;obtain⟨h2,h3⟩:Rd w [v] [x] f∧h= []:=AZ;subst h3;exact⟨by simpa using h2.app h1,rfl⟩
 |free h1 _ ih=>intro BP D4;subst BP;obtain⟨h2,rfl⟩:=ih rfl fun m hm=>D4 m (List.mem_of_mem_tail hm);exact⟨by simpa using h1.app h2,rfl⟩
theorem C8.je {P:Program} {w:World}: ∀{ts:List TypeId} {ms:List PM} {vs:List Value},vs.length=ts.length→(∀m∈ms,m= .ro)→C8 P w ts ms vs [] [] []
 | [],_,vs,_,_=> .nil
 |t::ts,ms, [],h,_=>by simp at h
 |t::ts,ms,v::vs,h,D4=>by
  refine .ro ?_ (C8.je (by simpa using h) fun m hm=>D4 m (List.mem_of_mem_tail hm));cases ms with
  |nil=>rfl
  |cons m ms=>exact D4 m (by simp)
def YR (P:Program) (sg:BC) (f np:Nat) (r:AV):Bool:=
 match P.funcs[f]?,sg f with
 |some fn,some s=>fn.body.isSome&& !(fn.name== "runtime.NumGoroutine")&&KB P fn s r&&s.b8.all (fun m=>match m with| .ro=>true|_=>false)&&fn.params.size==np&&fn.nfree==0&&(s.ft.isEmpty&&s.lo.isEmpty)&&(match fn.resultTypes.toList with| [t]=> !F2 P t s.res|_=>false)
 |_,_=>false
theorem pH {f:Nat} {xs:List AV} {r:AV} (hk:YR Tryz.prog B2 f xs.length r=true) (hc: ∀(w:World) (vs:List Value) (rf:List Nat),E9.K w→Rd w vs xs rf→Calls Tryz.prog f vs.toArray w fun e w'=>Mod [] w w'∧ ∃v f1,e= .returned v∧Rd w' [v] [r] f1∧ ∀b∈f1,b∈rf∨w.heap.size≤b):B6 Tryz.prog B2 f xs r:=by
 unfold YR at hk;split at hk
 ·rename_i fn s hf hs;simp only [Ad,Bool.not_eq_true',beq_iff_eq,AS]at hk;obtain⟨⟨⟨⟨⟨⟨⟨h1,h2⟩,h3⟩,h4⟩,h5⟩,h6⟩,CV⟩,h7⟩:=hk;obtain⟨CV,BP⟩:s.ft= []∧s.lo= []:=by simpa using CV
  have EN: ∀m∈s.b8,m= .ro:=fun m hm=>by
   have:=h4 m hm;split at this
   ·rfl
   ·cases this
  unfold B6;rw [if_pos (Nx f s hs)];refine⟨s,hs,fn,hf,h1,h2,h3,by omega,by simp [CV],fun w vs rf lf A4 As hd _ BW Dv=> ?_⟩;obtain⟨hr,rfl⟩:=As.rd BP EN;refine(hc w vs rf Dv.2.1 hr).mono ?_;rintro e w' ⟨hm,v,f1,rfl,hv,hb⟩;refine⟨v,rfl,⟨⟨r, [],f1, [], [], [],rfl, ?_,C8.je ?_ EN,by simp,by simp,fun b BL=>⟨by simp, ?_⟩⟩,hm⟩⟩
  ·unfold JJ;split at h7
   ·rename_i t ht;rw [ht];show Ef Tryz.prog w' t s.res v r f1 [];unfold Ef;rw [if_neg (by rw [Bool.not_eq_true];simpa using h7)];exact⟨hv,rfl⟩
   ·cases h7
  ·rw [hr.len];simp [CV];omega
  ·rcases hb b (by simpa using BL)with h|h
   ·exact .inl h
   ·exact .inr (.inr h)
 ·cases hk
theorem Wn {f:Nat} {xs:List AV} {r:AV} (hk:YR Tryz.prog B2 f xs.length r=true) (hc: ∀(w:World) (vs:List Value) (rf:List Nat),Rd w vs xs rf→Calls Tryz.prog f vs.toArray w fun e w'=>Mod [] w w'∧ ∃v f1,e= .returned v∧Rd w' [v] [r] f1∧ ∀b∈f1,b∈rf∨w.heap.size≤b):B6 Tryz.prog B2 f xs r:=
 pH hk fun w vs rf _ hr=>hc w vs rf hr
theorem KM {w:World} {s:List UInt8} {vs:List Value} {xs:List AV} {f:List Nat} (h:Rd w vs (.str s::xs) f): ∃(b:ByteArray) (us:List Value),vs= .string b::us∧b.data.toList=s∧b.size≤9223372036854775807∧Rd w us xs f:=by
 cases h with
 |str a h=>exact⟨_,_,rfl,rfl,a,h⟩
theorem SL {w:World} {k:IntKind} {n:Int} {vs:List Value} {xs:List AV} {f:List Nat} (h:Rd w vs (.int k n::xs) f): ∃us:List Value,vs= .int k n::us∧Eg k n∧Rd w us xs f:=by
 cases h with
 |int a h=>exact⟨_,rfl,a,h⟩
theorem Kz {w:World} {vs:List Value} {f:List Nat} (h:Rd w vs [] f):vs= []∧f= []:=by cases h;exact⟨rfl,rfl⟩
end Go.Proofs.YtollgpkegmbpmaaGreatDoor
end
section
namespace Go.Proofs
open Go.Shelf
def Tryz.eu:Go.Shelf.Ren:=⟨fun|156=>212|165=>258|166=>259|169=>260|240=>293|241=>294|276=>314|277=>315|n=>n,fun|31=>23|9=>9|3=>3|4=>4|0=>0|20=>20|72=>254|76=>258|70=>252|37=>22|75=>257|127=>279|164=>293|5=>5|80=>134|n=>n,fun|n=>n⟩
theorem Tryz.ir:Go.Proofs.Lays.n156 Tryz.prog Tryz.eu:={
 mixed:=by kernel_rfl
 f156:=Tryz.func212.trans (congrArg some (by kernel_rfl))
 f165:=Tryz.func258.trans (congrArg some (by kernel_rfl))
 f166:=Tryz.func259.trans (congrArg some (by kernel_rfl))
 f169:=Tryz.func260.trans (congrArg some (by kernel_rfl))
 f240:=Tryz.func293.trans (congrArg some (by kernel_rfl))
 f241:=Tryz.func294.trans (congrArg some (by kernel_rfl))
 f276:=Tryz.func314.trans (congrArg some (by kernel_rfl))
 f277:=Tryz.func315.trans (congrArg some (by kernel_rfl))
 t0:=Tryz.underlying0
 a0:=Tryz.isAgg0
 z0:=Tryz.sizeOf0
 v0:=Tryz.zeroValue0
 t3:=Tryz.underlying3
 a3:=Tryz.isAgg3
 z3:=Tryz.sizeOf3
 v3:=Tryz.zeroValue3
 t4:=Tryz.underlying4
 a4:=Tryz.isAgg4
 z4:=Tryz.sizeOf4
 v4:=Tryz.zeroValue4
 t9:=Tryz.underlying9
 a9:=Tryz.isAgg9
 z9:=Tryz.sizeOf9
 v9:=Tryz.zeroValue9
 t20:=Tryz.underlying20
 a20:=Tryz.isAgg20
 z20:=Tryz.sizeOf20
 v20:=Tryz.zeroValue20
 t31:=Tryz.underlying23
 a31:=Tryz.isAgg23
 z31:=Tryz.sizeOf23
 v31:=Tryz.zeroValue23
 t37:=Tryz.underlying22
 a37:=Tryz.isAgg22
 z37:=Tryz.sizeOf22
 v37:=Tryz.zeroValue22
 t70:=Tryz.underlying252
 a70:=Tryz.isAgg252
 z70:=Tryz.sizeOf252
 v70:=Tryz.zeroValue252
 t72:=Tryz.underlying254
 a72:=Tryz.isAgg254
 z72:=Tryz.sizeOf254
 v72:=Tryz.zeroValue254
 t75:=Tryz.underlying257
 a75:=Tryz.isAgg257
 z75:=Tryz.sizeOf257
 v75:=Tryz.zeroValue257
 t76:=Tryz.underlying258
 a76:=Tryz.isAgg258
 z76:=Tryz.sizeOf258
 v76:=Tryz.zeroValue258
 t127:=Tryz.underlying279
 a127:=Tryz.isAgg279
 z127:=Tryz.sizeOf279
 v127:=Tryz.zeroValue279
 t164:=Tryz.underlying293
 a164:=Tryz.isAgg293
 z164:=Tryz.sizeOf293
 v164:=Tryz.zeroValue293}
theorem Tryz.dh:Builder.Extra Tryz.prog Tryz.eu:={
 sizeBuilder:=by kernel_rfl
 liesBuilder:=by kernel_rfl
 t5:=Tryz.underlying5
 a5:=Tryz.isAgg5
 z5:=Tryz.sizeOf5
 v5:=Tryz.zeroValue5
 infoByte:=by kernel_rfl
 cellsByte:=by kernel_rfl
 sizeByte:=by kernel_rfl
 neB5:=by decide}
open Go.RowKit in
theorem Tryz.strings_Join_none (a:Option Addr) (c:Nat) (sep:ByteArray) (w:World):
  Calls Tryz.prog 212 #[.slice a 0 c, .string sep] w fun e w'=>e= .returned (.string ⟨#[]⟩)∧w'=w:=Any.strings_Join_none Tryz.ir Tryz.dh a c sep w
open Go.RowKit in
theorem Tryz.strings_Join (bk o c:Nat) (xs:List ByteArray) (sep:ByteArray) (w:World) (Ml: ∀(j:Nat) x,xs[j]?=some x→w.cell? ⟨bk,o+j,none⟩=some (.string x)) (NW:bk<w.heap.size) (hN:xs.length≤140737488355328) (Ih:xs.length≤c) (hlen:(Lib.join (xs.map (·.data.toList)) sep.data.toList).length≤140737488355328):
  Calls Tryz.prog 212 #[.slice (some ⟨bk,o,none⟩) xs.length c, .string sep] w fun e w'=>e= .returned (.string ⟨(Lib.join (xs.map (·.data.toList)) sep.data.toList).toArray⟩)∧Below w.heap.size w w':=Any.strings_Join Tryz.ir Tryz.dh bk o c xs sep w Ml NW hN Ih hlen
def Tryz.kr:Go.Shelf.Ren:=⟨fun|137=>253|217=>288|266=>312|n=>n,fun|9=>9|5=>5|3=>3|n=>n,fun|n=>n⟩
def Tryz.ku:Go.Shelf.Ren:=⟨fun|172=>271|244=>301|245=>302|247=>321|279=>322|280=>323|281=>324|282=>325|287=>332|316=>333|171=>183|205=>334|321=>337|322=>338|243=>232|246=>272|283=>303|284=>304|285=>305|286=>306|129=>243|317=>326|318=>327|319=>328|320=>329|337=>335|338=>336|n=>n,fun|9=>9|3=>3|75=>257|76=>258|4=>4|5=>5|167=>297|37=>22|0=>0|85=>298|2=>2|168=>300|53=>107|175=>313|46=>198|210=>316|127=>279|145=>321|143=>319|21=>21|171=>284|173=>286|212=>304|51=>241|20=>20|213=>305|232=>322|233=>323|80=>134|n=>n,fun|15=>4|16=>5|17=>1|18=>6|19=>7|n=>n⟩
def Tryz.j6:Go.Shelf.Ren:=⟨fun|246=>272|283=>303|284=>304|285=>305|286=>306|129=>243|317=>326|318=>327|319=>328|320=>329|337=>335|338=>336|n=>n,fun|2=>2|3=>3|9=>9|4=>4|171=>284|0=>0|53=>107|37=>22|5=>5|173=>286|212=>304|51=>241|20=>20|213=>305|46=>198|232=>322|233=>323|n=>n,fun|17=>1|18=>6|19=>7|n=>n⟩
def Tryz.km:Go.Shelf.Ren:=⟨fun|243=>232|246=>272|283=>303|284=>304|285=>305|286=>306|129=>243|317=>326|318=>327|319=>328|320=>329|337=>335|338=>336|n=>n,fun|3=>3|9=>9|2=>2|4=>4|171=>284|0=>0|53=>107|37=>22|5=>5|173=>286|212=>304|51=>241|20=>20|213=>305|46=>198|232=>322|233=>323|n=>n,fun|17=>1|18=>6|19=>7|n=>n⟩
def Tryz.fy:Go.Shelf.Ren:=⟨fun|171=>183|243=>232|246=>272|283=>303|284=>304|285=>305|286=>306|129=>243|317=>326|318=>327|319=>328|320=>329|337=>335|338=>336|n=>n,fun|3=>3|9=>9|2=>2|4=>4|171=>284|0=>0|53=>107|37=>22|5=>5|173=>286|212=>304|51=>241|20=>20|213=>305|46=>198|232=>322|233=>323|n=>n,fun|17=>1|18=>6|19=>7|n=>n⟩
theorem Tryz.jb:Go.Proofs.LaysM.n171 Tryz.prog Tryz.fy:={
 mixed:=by kernel_rfl
 f129:=Tryz.func243.trans (congrArg some (by kernel_rfl))
 f171:=Tryz.func183.trans (congrArg some (by kernel_rfl))
 f243:=Tryz.func232.trans (congrArg some (by kernel_rfl))
 f246:=Tryz.func272.trans (congrArg some (by kernel_rfl))
 f283:=Tryz.func303.trans (congrArg some (by kernel_rfl))
 f284:=Tryz.func304.trans (congrArg some (by kernel_rfl))
 f285:=Tryz.func305.trans (congrArg some (by kernel_rfl))
 f286:=Tryz.func306.trans (congrArg some (by kernel_rfl))
 f317:=Tryz.func326.trans (congrArg some (by kernel_rfl))
 f318:=Tryz.func327.trans (congrArg some (by kernel_rfl))
 f319:=Tryz.func328.trans (congrArg some (by kernel_rfl))
 f320:=Tryz.func329.trans (congrArg some (by kernel_rfl))
 f337:=Tryz.func335.trans (congrArg some (by kernel_rfl))
 f338:=Tryz.func336.trans (congrArg some (by kernel_rfl))
 t0:=Tryz.underlying0
 a0:=Tryz.isAgg0
 z0:=Tryz.sizeOf0
 v0:=Tryz.zeroValue0
 t2:=Tryz.underlying2
 a2:=Tryz.isAgg2
 z2:=Tryz.sizeOf2
 v2:=Tryz.zeroValue2
 t3:=Tryz.underlying3
 a3:=Tryz.isAgg3
 z3:=Tryz.sizeOf3
 v3:=Tryz.zeroValue3
 t4:=Tryz.underlying4
 a4:=Tryz.isAgg4
 z4:=Tryz.sizeOf4
 v4:=Tryz.zeroValue4
 t5:=Tryz.underlying5
 a5:=Tryz.isAgg5
 z5:=Tryz.sizeOf5
 v5:=Tryz.zeroValue5
 t9:=Tryz.underlying9
 a9:=Tryz.isAgg9
 z9:=Tryz.sizeOf9
 v9:=Tryz.zeroValue9
 t20:=Tryz.underlying20
 a20:=Tryz.isAgg20
 z20:=Tryz.sizeOf20
 v20:=Tryz.zeroValue20
 t37:=Tryz.underlying22
 a37:=Tryz.isAgg22
 z37:=Tryz.sizeOf22
 v37:=Tryz.zeroValue22
 t46:=Tryz.underlying198
 a46:=Tryz.isAgg198
 z46:=Tryz.sizeOf198
 v46:=Tryz.zeroValue198
 t51:=Tryz.underlying241
 a51:=Tryz.isAgg241
 z51:=Tryz.sizeOf241
 v51:=Tryz.zeroValue241
 t53:=Tryz.underlying107
 a53:=Tryz.isAgg107
 z53:=Tryz.sizeOf107
 v53:=Tryz.zeroValue107
 t171:=Tryz.underlying284
 a171:=Tryz.isAgg284
 z171:=Tryz.sizeOf284
 v171:=Tryz.zeroValue284
 t173:=Tryz.underlying286
 a173:=Tryz.isAgg286
 z173:=Tryz.sizeOf286
 v173:=Tryz.zeroValue286
 t212:=Tryz.underlying304
 a212:=Tryz.isAgg304
 z212:=Tryz.sizeOf304
 v212:=Tryz.zeroValue304
 t213:=Tryz.underlying305
 a213:=Tryz.isAgg305
 z213:=Tryz.sizeOf305
 t232:=Tryz.underlying322
 a232:=Tryz.isAgg322
 z232:=Tryz.sizeOf322
 v232:=Tryz.zeroValue322
 t233:=Tryz.underlying323
 a233:=Tryz.isAgg323
 z233:=Tryz.sizeOf323
 v233:=Tryz.zeroValue323
 g17:=by kernel_rfl
 g18:=by kernel_rfl
 g19:=by kernel_rfl
 i0:=by kernel_rfl
 i2:=by kernel_rfl
 i3:=by kernel_rfl
 i4:=by kernel_rfl
 i5:=by kernel_rfl
 i9:=by kernel_rfl
 i20:=by kernel_rfl
 i37:=by kernel_rfl
 i46:=by kernel_rfl
 i51:=by kernel_rfl
 i53:=by kernel_rfl
 i171:=by kernel_rfl
 i173:=by kernel_rfl
 i212:=by kernel_rfl
 i232:=by kernel_rfl
 i233:=by kernel_rfl
 m17:=by kernel_rfl
 m18:=by kernel_rfl
 m19:=by kernel_rfl}
open Go.RowKit Go.Sort Go.Lib in
theorem Tryz.strconv_Itoa (n:Int) (h0: -9223372036854775808≤n) (h1:n≤9223372036854775807) (w:World) (Yo:Lib.TabIs Tryz.prog w "internal/strconv.uint64pow10" .u64 Lib.pow10Tab):
  Calls Tryz.prog 183 #[.int .i64 n] w fun e w'=>e= .returned (.string ⟨(Lib.itoa n).toArray⟩)∧ ∃k os,w'=grow (w.drewN k) os:=Any.strconv_Itoa Tryz.jb n h0 h1 w Yo
def Tryz.gi:Go.Shelf.Ren:=⟨fun|172=>271|244=>301|245=>302|247=>321|279=>322|280=>323|281=>324|282=>325|287=>332|316=>333|171=>183|205=>334|321=>337|322=>338|243=>232|246=>272|283=>303|284=>304|285=>305|286=>306|129=>243|317=>326|318=>327|319=>328|320=>329|337=>335|338=>336|n=>n,fun|9=>9|3=>3|75=>257|76=>258|4=>4|5=>5|167=>297|37=>22|0=>0|85=>298|2=>2|168=>300|53=>107|175=>313|46=>198|210=>316|127=>279|145=>321|143=>319|21=>21|171=>284|173=>286|212=>304|51=>241|20=>20|213=>305|232=>322|233=>323|80=>134|n=>n,fun|15=>4|16=>5|17=>1|18=>6|19=>7|n=>n⟩
theorem Tryz.fh:Go.Proofs.LaysC.n172 Tryz.prog Tryz.gi:={
 mixed:=by kernel_rfl
 f129:=Tryz.func243.trans (congrArg some (by kernel_rfl))
 f171:=Tryz.func183.trans (congrArg some (by kernel_rfl))
 f172:=Tryz.func271.trans (congrArg some (by kernel_rfl))
 f205:=Tryz.func334.trans (congrArg some (by kernel_rfl))
 f243:=Tryz.func232.trans (congrArg some (by kernel_rfl))
 f244:=Tryz.func301.trans (congrArg some (by kernel_rfl))
 f245:=Tryz.func302.trans (congrArg some (by kernel_rfl))
 f246:=Tryz.func272.trans (congrArg some (by kernel_rfl))
 f247:=Tryz.func321.trans (congrArg some (by kernel_rfl))
 f279:=Tryz.func322.trans (congrArg some (by kernel_rfl))
 f280:=Tryz.func323.trans (congrArg some (by kernel_rfl))
 f281:=Tryz.func324.trans (congrArg some (by kernel_rfl))
 f282:=Tryz.func325.trans (congrArg some (by kernel_rfl))
 f283:=Tryz.func303.trans (congrArg some (by kernel_rfl))
 f284:=Tryz.func304.trans (congrArg some (by kernel_rfl))
 f285:=Tryz.func305.trans (congrArg some (by kernel_rfl))
 f286:=Tryz.func306.trans (congrArg some (by kernel_rfl))
 f287:=Tryz.func332.trans (congrArg some (by kernel_rfl))
 f316:=Tryz.func333.trans (congrArg some (by kernel_rfl))
 f317:=Tryz.func326.trans (congrArg some (by kernel_rfl))
 f318:=Tryz.func327.trans (congrArg some (by kernel_rfl))
 f319:=Tryz.func328.trans (congrArg some (by kernel_rfl))
 f320:=Tryz.func329.trans (congrArg some (by kernel_rfl))
 f321:=Tryz.func337.trans (congrArg some (by kernel_rfl))
 f322:=Tryz.func338.trans (congrArg some (by kernel_rfl))
 f337:=Tryz.func335.trans (congrArg some (by kernel_rfl))
 f338:=Tryz.func336.trans (congrArg some (by kernel_rfl))
 t0:=Tryz.underlying0
 a0:=Tryz.isAgg0
 z0:=Tryz.sizeOf0
 v0:=Tryz.zeroValue0
 t2:=Tryz.underlying2
 a2:=Tryz.isAgg2
 z2:=Tryz.sizeOf2
 v2:=Tryz.zeroValue2
 t3:=Tryz.underlying3
 a3:=Tryz.isAgg3
 z3:=Tryz.sizeOf3
 v3:=Tryz.zeroValue3
 t4:=Tryz.underlying4
 a4:=Tryz.isAgg4
 z4:=Tryz.sizeOf4
 v4:=Tryz.zeroValue4
 t5:=Tryz.underlying5
 a5:=Tryz.isAgg5
 z5:=Tryz.sizeOf5
 v5:=Tryz.zeroValue5
 t9:=Tryz.underlying9
 a9:=Tryz.isAgg9
 z9:=Tryz.sizeOf9
 v9:=Tryz.zeroValue9
 t20:=Tryz.underlying20
 a20:=Tryz.isAgg20
 z20:=Tryz.sizeOf20
 v20:=Tryz.zeroValue20
 t21:=Tryz.underlying21
 a21:=Tryz.isAgg21
 z21:=Tryz.sizeOf21
 v21:=Tryz.zeroValue21
 t37:=Tryz.underlying22
 a37:=Tryz.isAgg22
 z37:=Tryz.sizeOf22
 v37:=Tryz.zeroValue22
 t46:=Tryz.underlying198
 a46:=Tryz.isAgg198
 z46:=Tryz.sizeOf198
 v46:=Tryz.zeroValue198
 t51:=Tryz.underlying241
 a51:=Tryz.isAgg241
 z51:=Tryz.sizeOf241
 v51:=Tryz.zeroValue241
 t53:=Tryz.underlying107
 a53:=Tryz.isAgg107
 z53:=Tryz.sizeOf107
 v53:=Tryz.zeroValue107
 t75:=Tryz.underlying257
 a75:=Tryz.isAgg257
 z75:=Tryz.sizeOf257
 v75:=Tryz.zeroValue257
 t76:=Tryz.underlying258
 a76:=Tryz.isAgg258
 z76:=Tryz.sizeOf258
 v76:=Tryz.zeroValue258
 t85:=Tryz.underlying298
 a85:=Tryz.isAgg298
 z85:=Tryz.sizeOf298
 v85:=Tryz.zeroValue298
 t127:=Tryz.underlying279
 a127:=Tryz.isAgg279
 z127:=Tryz.sizeOf279
 v127:=Tryz.zeroValue279
 t143:=Tryz.underlying319
 a143:=Tryz.isAgg319
 z143:=Tryz.sizeOf319
 v143:=Tryz.zeroValue319
 t145:=Tryz.underlying321
 a145:=Tryz.isAgg321
 z145:=Tryz.sizeOf321
 v145:=Tryz.zeroValue321
 t167:=Tryz.underlying297
 a167:=Tryz.isAgg297
 z167:=Tryz.sizeOf297
 v167:=Tryz.zeroValue297
 t168:=Tryz.underlying300
 a168:=Tryz.isAgg300
 z168:=Tryz.sizeOf300
 v168:=Tryz.zeroValue300
 t171:=Tryz.underlying284
 a171:=Tryz.isAgg284
 z171:=Tryz.sizeOf284
 v171:=Tryz.zeroValue284
 t173:=Tryz.underlying286
 a173:=Tryz.isAgg286
 z173:=Tryz.sizeOf286
 v173:=Tryz.zeroValue286
 t175:=Tryz.underlying313
 a175:=Tryz.isAgg313
 z175:=Tryz.sizeOf313
 v175:=Tryz.zeroValue313
 t210:=Tryz.underlying316
 a210:=Tryz.isAgg316
 z210:=Tryz.sizeOf316
 v210:=Tryz.zeroValue316
 t212:=Tryz.underlying304
 a212:=Tryz.isAgg304
 z212:=Tryz.sizeOf304
 v212:=Tryz.zeroValue304
 t213:=Tryz.underlying305
 a213:=Tryz.isAgg305
 z213:=Tryz.sizeOf305
 t232:=Tryz.underlying322
 a232:=Tryz.isAgg322
 z232:=Tryz.sizeOf322
 v232:=Tryz.zeroValue322
 t233:=Tryz.underlying323
 a233:=Tryz.isAgg323
 z233:=Tryz.sizeOf323
 v233:=Tryz.zeroValue323
 g15:=by kernel_rfl
 g16:=by kernel_rfl
 g17:=by kernel_rfl
 g18:=by kernel_rfl
 g19:=by kernel_rfl
 t80:=Tryz.underlying134
 a80:=Tryz.isAgg134
 z80:=Tryz.sizeOf134
 v80:=Tryz.zeroValue134
 i0:=by kernel_rfl
 i2:=by kernel_rfl
 i3:=by kernel_rfl
 i4:=by kernel_rfl
 i5:=by kernel_rfl
 i9:=by kernel_rfl
 i20:=by kernel_rfl
 i21:=by kernel_rfl
 i37:=by kernel_rfl
 i46:=by kernel_rfl
 i51:=by kernel_rfl
 i53:=by kernel_rfl
 i75:=by kernel_rfl
 i76:=by kernel_rfl
 i80:=by kernel_rfl
 i85:=by kernel_rfl
 i127:=by kernel_rfl
 i143:=by kernel_rfl
 i145:=by kernel_rfl
 i167:=by kernel_rfl
 i168:=by kernel_rfl
 i171:=by kernel_rfl
 i173:=by kernel_rfl
 i175:=by kernel_rfl
 i210:=by kernel_rfl
 i212:=by kernel_rfl
 i232:=by kernel_rfl
 i233:=by kernel_rfl
 m15:=by kernel_rfl
 m16:=by kernel_rfl
 m17:=by kernel_rfl
 m18:=by kernel_rfl
 m19:=by kernel_rfl
 c0:=by kernel_rfl
 c2:=by kernel_rfl
 c3:=by kernel_rfl
 c4:=by kernel_rfl
 c5:=by kernel_rfl
 c9:=by kernel_rfl
 c20:=by kernel_rfl
 c21:=by kernel_rfl
 c37:=by kernel_rfl
 c46:=by kernel_rfl
 c51:=by kernel_rfl
 c53:=by kernel_rfl
 c75:=by kernel_rfl
 c76:=by kernel_rfl
 c80:=by kernel_rfl
 c85:=by kernel_rfl
 c127:=by kernel_rfl
 c143:=by kernel_rfl
 c145:=by kernel_rfl
 c167:=by kernel_rfl
 c168:=by kernel_rfl
 c171:=by kernel_rfl
 c173:=by kernel_rfl
 c175:=by kernel_rfl
 c210:=by kernel_rfl
 c212:=by kernel_rfl
 c213:=by kernel_rfl
 c232:=by kernel_rfl
 c233:=by kernel_rfl}
open Go.RowKit in
theorem Tryz.strconv_Atoi_ok (s:ByteArray) (DL:s.size≤9223372036854775806) (v:Int) (h:Lib.atoiAll s.data.toList= .ok v) (w:World):
  Calls Tryz.prog 271 #[.string s] w fun e w'=>e= .returned (.tuple #[.int .i64 v, .nilIface])∧(w'=w∨ ∃t,w'=Lib.bytesWorld w 5 t):=Any.strconv_Atoi_ok Tryz.fh s DL v h w
def Tryz.gn:Go.Shelf.Ren:=⟨fun|217=>288|266=>312|n=>n,fun|9=>9|5=>5|3=>3|n=>n,fun|n=>n⟩
theorem Tryz.j8:Go.Proofs.Lays.n217 Tryz.prog Tryz.gn:={
 mixed:=by kernel_rfl
 f217:=Tryz.func288.trans (congrArg some (by kernel_rfl))
 f266:=Tryz.func312.trans (congrArg some (by kernel_rfl))
 t3:=Tryz.underlying3
 a3:=Tryz.isAgg3
 z3:=Tryz.sizeOf3
 v3:=Tryz.zeroValue3
 t5:=Tryz.underlying5
 a5:=Tryz.isAgg5
 z5:=Tryz.sizeOf5
 v5:=Tryz.zeroValue5
 t9:=Tryz.underlying9
 a9:=Tryz.isAgg9
 z9:=Tryz.sizeOf9
 v9:=Tryz.zeroValue9}
open Go.RowKit Go.Lib in
theorem Tryz.stringslite_IndexByte (s:ByteArray) (c:Int) (w:World):
  Calls Tryz.prog 288 #[.string s, .int .u8 c] w fun e w'=>e= .returned (.int .i64 (Lib.indexByte s.data.toList c.toNat.toUInt8))∧w'=w:=Any.stringslite_IndexByte Tryz.j8 s c w
def Tryz.gp:Go.Shelf.Ren:=⟨fun|219=>298|217=>288|225=>317|224=>318|267=>319|266=>312|314=>331|n=>n,fun|9=>9|3=>3|4=>4|5=>5|46=>198|146=>311|51=>241|n=>n,fun|1=>0|n=>n⟩
theorem Tryz.j5:Go.Proofs.Lays.n219 Tryz.prog Tryz.gp:={
 mixed:=by kernel_rfl
 f217:=Tryz.func288.trans (congrArg some (by kernel_rfl))
 f219:=Tryz.func298.trans (congrArg some (by kernel_rfl))
 f224:=Tryz.func318.trans (congrArg some (by kernel_rfl))
 f225:=Tryz.func317.trans (congrArg some (by kernel_rfl))
 f266:=Tryz.func312.trans (congrArg some (by kernel_rfl))
 f267:=Tryz.func319.trans (congrArg some (by kernel_rfl))
 f314:=Tryz.func331.trans (congrArg some (by kernel_rfl))
 t3:=Tryz.underlying3
 a3:=Tryz.isAgg3
 z3:=Tryz.sizeOf3
 v3:=Tryz.zeroValue3
 t4:=Tryz.underlying4
 a4:=Tryz.isAgg4
 z4:=Tryz.sizeOf4
 v4:=Tryz.zeroValue4
 t5:=Tryz.underlying5
 a5:=Tryz.isAgg5
 z5:=Tryz.sizeOf5
 v5:=Tryz.zeroValue5
 t9:=Tryz.underlying9
 a9:=Tryz.isAgg9
 z9:=Tryz.sizeOf9
 v9:=Tryz.zeroValue9
 t46:=Tryz.underlying198
 a46:=Tryz.isAgg198
 z46:=Tryz.sizeOf198
 v46:=Tryz.zeroValue198
 t51:=Tryz.underlying241
 a51:=Tryz.isAgg241
 z51:=Tryz.sizeOf241
 v51:=Tryz.zeroValue241
 t146:=Tryz.underlying311
 a146:=Tryz.isAgg311
 z146:=Tryz.sizeOf311
 v146:=Tryz.zeroValue311
 g1:=by kernel_rfl}
open Go.RowKit Go.Lib in
theorem Tryz.stringslite_Index_one (s:ByteArray) (c:UInt8) (w:World):
  Calls Tryz.prog 298 #[.string s, .string ⟨#[c]⟩] w fun e w'=>e= .returned (.int .i64 (Lib.indexByte s.data.toList c))∧w'=w:=Any.stringslite_Index_one Tryz.j5 s c w
def Tryz.gr:Go.Shelf.Ren:=⟨fun|138=>263|195=>295|218=>297|143=>264|219=>298|217=>288|225=>317|224=>318|267=>319|266=>312|314=>331|n=>n,fun|9=>9|3=>3|4=>4|5=>5|0=>0|46=>198|146=>311|51=>241|n=>n,fun|1=>0|n=>n⟩
theorem Tryz.kf:Go.Proofs.Lays.n138 Tryz.prog Tryz.gr:={
 mixed:=by kernel_rfl
 f138:=Tryz.func263.trans (congrArg some (by kernel_rfl))
 f143:=Tryz.func264.trans (congrArg some (by kernel_rfl))
 f195:=Tryz.func295.trans (congrArg some (by kernel_rfl))
 f217:=Tryz.func288.trans (congrArg some (by kernel_rfl))
 f218:=Tryz.func297.trans (congrArg some (by kernel_rfl))
 f219:=Tryz.func298.trans (congrArg some (by kernel_rfl))
 f224:=Tryz.func318.trans (congrArg some (by kernel_rfl))
 f225:=Tryz.func317.trans (congrArg some (by kernel_rfl))
 f266:=Tryz.func312.trans (congrArg some (by kernel_rfl))
 f267:=Tryz.func319.trans (congrArg some (by kernel_rfl))
 f314:=Tryz.func331.trans (congrArg some (by kernel_rfl))
 t0:=Tryz.underlying0
 a0:=Tryz.isAgg0
 z0:=Tryz.sizeOf0
 v0:=Tryz.zeroValue0
 t3:=Tryz.underlying3
 a3:=Tryz.isAgg3
 z3:=Tryz.sizeOf3
 v3:=Tryz.zeroValue3
 t4:=Tryz.underlying4
 a4:=Tryz.isAgg4
 z4:=Tryz.sizeOf4
 v4:=Tryz.zeroValue4
 t5:=Tryz.underlying5
 a5:=Tryz.isAgg5
 z5:=Tryz.sizeOf5
 v5:=Tryz.zeroValue5
 t9:=Tryz.underlying9
 a9:=Tryz.isAgg9
 z9:=Tryz.sizeOf9
 v9:=Tryz.zeroValue9
 t46:=Tryz.underlying198
 a46:=Tryz.isAgg198
 z46:=Tryz.sizeOf198
 v46:=Tryz.zeroValue198
 t51:=Tryz.underlying241
 a51:=Tryz.isAgg241
 z51:=Tryz.sizeOf241
 v51:=Tryz.zeroValue241
 t146:=Tryz.underlying311
 a146:=Tryz.isAgg311
 z146:=Tryz.sizeOf311
 v146:=Tryz.zeroValue311
 g1:=by kernel_rfl}
open Go.RowKit Go.Lib in
theorem Tryz.strings_Count_one (s:ByteArray) (c:UInt8) (w:World):
  Calls Tryz.prog 263 #[.string s, .string ⟨#[c]⟩] w fun e w'=>e= .returned (.int .i64 (Lib.countByte s.data.toList c))∧w'=w:=Any.strings_Count_one Tryz.kf s c w
end Go.Proofs
end
section
namespace Go.Proofs.YtollgpkegmbpmaaGreatDoor
open Go.RowKit
set_option maxRecDepth 100000
theorem aD: ∀(l:List UInt8) (c:UInt8), -1≤Lib.indexByte l c∧Lib.indexByte l c<l.length∨Lib.indexByte l c= -1
 | [],_=> .inr rfl
 |b::l,c=>by
  unfold Lib.indexByte;rcases aD l c with h|h
  ·split
   ·left;simp
   ·split
    ·exact .inr rfl
    ·left;rw [Am];omega
  ·rw [h];split
   ·left;simp
   ·right;rfl
theorem cX {n:Int} (h1: -9223372036854775808≤n) (h2:n≤9223372036854775807):Eg .i64 n:=B3 h1 h2
theorem iX {b:ByteArray} {c:UInt8} (h:b.data.toList= [c]):b=⟨#[c]⟩:=by
 cases b with
 |mk d=>cases d with
  |mk l=>simp at h;rw [h]
def T7 (s:List UInt8) (c:Int):Option Int:=some (Lib.indexByte s c.toNat.toUInt8)
theorem zfJ (a0:List UInt8) (a1 r:Int) (h:T7 a0 a1=some r):B6 Tryz.prog B2 288 [.str a0, .int .u8 a1] (.int .i64 r):=Wn (by kernel_rfl) fun w vs rf hr=>by
 obtain⟨b,us,rfl,rfl,hb,hr⟩:=KM hr;obtain⟨us1,rfl,_,hr⟩:=SL hr;obtain⟨rfl,rfl⟩:=Kz hr;refine(Tryz.stringslite_IndexByte b a1 w).mono ?_;rintro e w' ⟨rfl,rfl⟩;cases h;have hl:b.data.toList.length≤9223372036854775807:=by rw [Array.length_toList];exact hb
 exact⟨Mod.refl [] _,_, [],rfl, .int (by rcases aD b.data.toList a1.toNat.toUInt8 with h|h<;>exact cX (by omega) (by omega)) .nil,by simp⟩
def OA (s sub:List UInt8):Option Int:=match sub with| [c]=>some (Lib.indexByte s c)|_=>none
theorem zgX (a0 a1:List UInt8) (r:Int) (h:OA a0 a1=some r):B6 Tryz.prog B2 298 [.str a0, .str a1] (.int .i64 r):=Wn (by kernel_rfl) fun w vs rf hr=>by
 obtain⟨b,us,rfl,rfl,hb,hr⟩:=KM hr;obtain⟨b1,us1,rfl,h1,_,hr⟩:=KM hr;obtain⟨rfl,rfl⟩:=Kz hr
 match a1,h,h1 with
 | [c],h,h1=>
  have:=iX h1;subst this;refine(Tryz.stringslite_Index_one b c w).mono ?_;rintro e w' ⟨rfl,rfl⟩;cases h;have hl:b.data.toList.length≤9223372036854775807:=by rw [Array.length_toList];exact hb
  exact⟨Mod.refl [] _,_, [],rfl, .int (by rcases aD b.data.toList c with h|h<;>exact cX (by omega) (by omega)) .nil,by simp⟩
 | [],h,_=>cases h
 |_::_::_,h,_=>cases h
def UP (s sub:List UInt8):Option Int:=match sub with| [c]=>some (Lib.countByte s c:Int)|_=>none
theorem zo0 (a0 a1:List UInt8) (r:Int) (h:UP a0 a1=some r):B6 Tryz.prog B2 263 [.str a0, .str a1] (.int .i64 r):=Wn (by kernel_rfl) fun w vs rf hr=>by
 obtain⟨b,us,rfl,rfl,hb,hr⟩:=KM hr;obtain⟨b1,us1,rfl,h1,_,hr⟩:=KM hr;obtain⟨rfl,rfl⟩:=Kz hr
 match a1,h,h1 with
 | [c],h,h1=>
  have:=iX h1;subst this;refine(Tryz.strings_Count_one b c w).mono ?_;rintro e w' ⟨rfl,rfl⟩;cases h;have hl:b.data.toList.length≤9223372036854775807:=by rw [Array.length_toList];exact hb
  have:Lib.countByte b.data.toList c≤b.data.toList.length:=List.count_le_length;exact⟨Mod.refl [] _,_, [],rfl, .int (cX (by omega) (by omega)) .nil,by simp⟩
 | [],h,_=>cases h
 |_::_::_,h,_=>cases h
def Zo (_:List UInt8) (_:Int):Option (List (List UInt8)):=none
theorem zmk (a0:List UInt8) (a1:Int) (r:List (List UInt8)) (h:Zo a0 a1=some r):B6 Tryz.prog B2 262 [.str a0, .int .i64 a1] (.sl (r.map Ja)):=by cases h
noncomputable def Pc (xs:List (List UInt8)) (sep:List UInt8):Option (List UInt8):=req (xs.length≤140737488355328∧(Lib.join xs sep).length≤140737488355328) (some (Lib.join xs sep))
theorem lP {w:World}: ∀{cs:List Value} {xs:List (List UInt8)} {f:List Nat},Rd w cs (AE (xs.map Ja)) f→ ∃bs:List ByteArray,cs=bs.map Value.string∧bs.map (·.data.toList)=xs
 |cs, [],f,h=>by obtain⟨rfl,_⟩:=Kz (by simpa [AE]using h);exact⟨[],rfl,rfl⟩
 |cs,x::xs,f,h=>by
  have h':Rd w cs (.str x::AE (xs.map Ja)) f:=by simpa [AE]using h
  obtain⟨b,us,rfl,rfl,_,h2⟩:=KM h';obtain⟨bs,rfl,rfl⟩:=lP h2;exact⟨b::bs,rfl,rfl⟩
theorem zpy (a0:List (List UInt8)) (a1 r:List UInt8) (h:Pc a0 a1=some r):B6 Tryz.prog B2 212 [.sl (a0.map Ja), .str a1] (.str r):=Wn (by kernel_rfl) fun w vs rf hr=>by
 obtain⟨⟨FQ,Fh⟩,h⟩:=F7 h;cases h;generalize hx:a0.map Ja=ys at hr;cases hr with
 |dw hr=>
  obtain⟨b1,us1,rfl,rfl,_,hr⟩:=KM hr;obtain⟨rfl,rfl⟩:=Kz hr;have:a0= []:=by simpa using hx
  subst this;refine(Tryz.strings_Join_none _ _ b1 w).mono ?_;rintro e w' ⟨rfl,rfl⟩;exact⟨Mod.refl [] _,_, [],rfl, .str (by simp [ByteArray.size]) .nil,by simp⟩
 |fc hb h1 h2 h3 h4 h5 h6 Gb h7 hr=>
  rename_i bk o n c cs C t fz sz f1 vs f;obtain⟨b1,us1,rfl,rfl,_,hr⟩:=KM hr;obtain⟨rfl,rfl⟩:=Kz hr;subst hx;obtain⟨bs,rfl,rfl⟩:=lP h7;have hn:n=bs.length:=by simpa using h3.symm
  subst hn;have NW:bk<w.heap.size:=El hb;refine(Tryz.strings_Join bk o c bs b1 w (fun j x hx=> ?_) NW (by simpa using FQ) h2.2 Fh).mono ?_
  ·have:=h6 j (.string x) (by simp [hx]);rw [Ec hb];exact this
  ·rintro e w' ⟨rfl,Xb⟩;exact⟨.dz Xb (Nat.le_refl _),_, [],rfl, .str (by simp [ByteArray.size];omega) .nil,by simp⟩
theorem U5 {P:Program} (w:World) (dT sT ty elem:TypeId) (k:Nat) (g o dLen dCap:Nat) (a:Addr) (sLen sCap:Nat) (cur:Array Value) (t:TypeId) (cs:List Value)
  (hu:P.underlying dT=some (.slice elem)) (hs:(P.info? elem).map (·.size)=some k)
  (hg:w.heap[g]?=some (.cells cur t (0,0))) (hn:cs.length=Nat.min sLen dLen*k)
  (E5: ∀j v,cs[j]?=some v→w.cell? (a.add j)=some v) (Ms:o+cs.length≤cur.size) (h1: ∀v∈cs,v.oneCell'=true):
  (Builtin.copy_ #[dT,sT] ty #[.slice (some ⟨g,o,none⟩) dLen dCap, .slice (some a) sLen sCap]).run P w=
   .ok (goInt (Nat.min sLen dLen)) (w.setRow g (cur.toList.take o++cs++cur.toList.drop (o+cs.length)).toArray):=by
 have hl:=run_loadCells_list (P:=P) w a cs E5;have ID:=run_storeCells_at P g o t cs 0 cur w hg (by simpa using Ms) h1;cases hq:P.info? elem with
 |none=>simp [hq]at hs
 |some i=>
  have hi:i.size=k:=by simpa [hq]using hs
  rw [hn]at hl;simp [Builtin.copy_,run_underlying hu,Builtin.lenOf,Builtin.firstCells,sizeOf,typeInfo,hq,hi,hl,ID]
theorem Z8 {P:Program} (w:World) {ops:Array Oper} {rest:List Oper} {o:Oper} {a:Act} {Q:Exit→Act→World→Prop} (NZ:o.guard=none) (d s:Operand) (t t':TypeId)
  (ho:o.op= .call {callee:= .builtin .copy,args:= #[d,s],argTypes:= #[t,t']}) (v u:Value) (hd:a.eval d=v) (hs:a.eval s=u) {v':Value} {w':World}
  (hr:(Builtin.copy_ #[t,t'] o.type #[v,u]).run P w= .ok v' w') (h:wpList P ops Q rest (a.put o.dst v') w'):wpList P ops Q (o::rest) a w:=
 wpList_plain NZ fun _ hK=>by unfold Oper.wp execOp;simp only [ho,resolve,invoke,builtin,Sem.run_bind,Sem.run_pure,Result.andThen_ok,List.map_toArray,List.map_cons,List.map_nil,hd,hs,hr];exact hK _ _ h
theorem mJ {P:Program} {ops:Array Oper} {o:Oper} {a:Act} {w:World} {K:Act→World→Prop} {Q:Exit→Act→World→Prop} {E:Prop}
  (hg:o.guard=none) (d x:Operand) (dT sT:TypeId) (AK:o.op=Op.call {callee:=Callee.builtin Builtin.copy,args:= #[d,x],argTypes:= #[dT,sT]})
  (v u:Value) (hd:a.eval d=v) (hx:a.eval x=u) {v':Value} {w':World} (hr:(Builtin.copy_ #[dT,sT] o.type #[v,u]).run P w= .ok v' w') (hK:K (a.put o.dst v') w'):
  if Region.wanted o (yielded ops a.tmps)=true then Oper.wp P o a w K Q else E:=by
 have hw:Region.wanted o (yielded ops a.tmps)=true:=by simp [Region.wanted,hg]
 rw [if_pos hw];unfold Oper.wp;simp [execOp,AK,resolve,invoke,builtin,hd,hx,hr,Result.andThen];exact hK
def F5 (w:World) (el:TypeId) (k:Nat) (g cap:Nat) (C:Array Value) (n:Nat) (cs:List Value):Prop:=
 n≤cap∧cap≤maxLen∧w.heap[g]?=some (.cells C el (0,0))∧C.size=cap*k∧cs=C.toList.take (n*k)
def NK (w w':World) (el:TypeId) (k:Nat) (own:List Nat) (v:Value) (n:Nat) (cs:List Value):Prop:=
 ∃g cap C,v= .slice (some ⟨g,0,none⟩) n cap∧F5 w' el k g cap C n cs∧Mod own w w'∧(g∈own∨w.heap.size≤g)
def fQ (P:Program) (f:Nat) (el:TypeId) (k:Nat):Prop:=
 ∀(w:World) (v:Value) (n i:Nat) (cs:List Value) (own:List Nat) (vb vc m:Nat) (VC:Array Value) (vs:List Value),cs.length=n*k→
  ((n=0∧ ∃q,v= .slice q 0 0)∨ ∃g cap C,v= .slice (some ⟨g,0,none⟩) n cap∧F5 w el k g cap C n cs∧g∈own)→i≤n→F5 w el k vb vc VC m vs→(∀g∈own,vb≠g)→0<m→(n+m)*1000≤140737488355328→
  (∀u∈vs,u.oneCell'=true)→(∀u∈cs,u.oneCell'=true)→
  Calls P f #[v, .int .i64 i, .slice (some ⟨vb,0,none⟩) m vc] w fun e w'=> ∃u,e= .returned u∧NK w w' el k own u (n+m) (cs.take (i*k)++vs++cs.drop (i*k))
theorem F5.cell {w:World} {el:TypeId} {k g cap:Nat} {C:Array Value} {n:Nat} {cs:List Value} (h:F5 w el k g cap C n cs) (off j:Nat) (v:Value) (hj:(cs.drop off)[j]?=some v):w.cell? ((⟨g,off,none⟩:Addr).add j)=some v:=by
 obtain⟨_,_,h3,_,h5⟩:=h;rw [Addr.add_lit,Ec h3];rw [List.getElem?_drop,h5,List.getElem?_take]at hj;split at hj
 ·simpa using hj
 ·cases hj
theorem F5.len {w:World} {el:TypeId} {k g cap:Nat} {C:Array Value} {n:Nat} {cs:List Value} (h:F5 w el k g cap C n cs):cs.length=n*k:=by obtain⟨h1,_,_,h4,h5⟩:=h;have:=Nat.mul_le_mul_right k h1;rw [h5,List.length_take,Array.length_toList];omega
theorem x7 {α:Type} (cur cs vs:List α) (i m n:Nat) (hc:cs=cur.take n) (hi:i≤n) (hv:vs.length=m) (hn:n+m≤cur.length):
  let c1:=cur.take (i+m)++cs.drop i++cur.drop (i+m+(cs.drop i).length)
  (c1.take i++vs++c1.drop (i+vs.length)).take (n+m)=cs.take i++vs++cs.drop i:=by
 have Ay:cs.length=n:=by rw [hc,List.length_take];omega
 have hd:(cs.drop i).length=n-i:=by rw [List.length_drop,Ay]
 intro c1;have e1:c1.take i=cs.take i:=by show(cur.take (i+m)++cs.drop i++_).take i=_;rw [List.append_assoc,List.take_append_of_le_length (by rw [List.length_take];omega),List.take_take,hc,List.take_take];congr 1;omega
 have e2:c1.drop (i+vs.length)=cs.drop i++cur.drop (i+m+(cs.drop i).length):=by show(cur.take (i+m)++cs.drop i++_).drop _=_;rw [List.append_assoc,List.drop_append_of_le_length (by rw [List.length_take,hv];omega),List.drop_eq_nil_of_le (by rw [List.length_take,hv];omega),List.nil_append]
 rw [e1,e2];have l1:(cs.take i++vs++cs.drop i).length=n+m:=by simp only [Ak,List.length_take,hv,hd,Ay];omega
 rw [←List.append_assoc,←l1,List.take_left]
theorem two {α:Type} (zs cs vs:List α) (i m n:Nat) (cur:List α) (Xl:cur=cs.take i++zs) (Ay:cs.length=n) (hi:i≤n) (hv:vs.length=m) (hz:n+m-i≤zs.length):
  let c1:=cur.take i++vs++cur.drop (i+vs.length)
  (c1.take (i+m)++cs.drop i++c1.drop (i+m+(cs.drop i).length)).take (n+m)=cs.take i++vs++cs.drop i:=by
 have ht:(cs.take i).length=i:=by rw [List.length_take];omega
 intro c1;have e1:c1=cs.take i++vs++cur.drop (i+vs.length):=by show cur.take i++vs++cur.drop (i+vs.length)=_;rw [Xl];congr 2;rw [List.take_append_of_le_length (by omega),List.take_take,Nat.min_self]
 have e2:c1.take (i+m)=cs.take i++vs:=by
  have l2:(cs.take i++vs).length=i+m:=by rw [Ak,ht,hv]
  rw [e1,←l2,List.take_left]
 rw [e2];have l1:(cs.take i++vs++cs.drop i).length=n+m:=by simp only [Ak,ht,hv,List.length_drop,Ay];omega
 rw [←l1,List.take_left]
theorem cS (xs ys:List AV):AE (xs++ys)=AE xs++AE ys:=by simp [AE]
theorem zvc {K:Nat} {xs:List AV} (h: ∀y∈xs,y.cells.length=K) {i:Nat} (hi:i≤xs.length):AE (xs.take i)=(AE xs).take (i*K)∧AE (xs.drop i)=(AE xs).drop (i*K):=by
 have l1:(AE (xs.take i)).length=i*K:=by rw [LF _ fun y hy=>h y (List.mem_of_mem_take hy),List.length_take,Nat.min_eq_left hi]
 have e:AE xs=AE (xs.take i)++AE (xs.drop i):=by rw [←cS,List.take_append_drop]
 rw [e,←l1,List.take_left,List.drop_left];exact⟨rfl,rfl⟩
theorem Cw.l0 {w:World} {el K:Nat} {v:Value} {x:AV} {top:List Nat} (h:Cw w el K v x top []): ∃xs cs,x= .sl xs∧0<K∧(∀y∈xs,y.cells.length=K)∧cs.length=xs.length*K∧Rd w cs (AE xs) []∧(∀u∈cs,u.oneCell'=true)∧
  ((xs= []∧top= []∧ ∃q,v= .slice q 0 0)∨ ∃g cap C,v= .slice (some ⟨g,0,none⟩) xs.length cap∧F5 w el K g cap C xs.length cs∧top= [g]):=by
 obtain⟨xs,rfl,h2,h3,⟨rfl,⟨a,hv⟩,rfl,_⟩|⟨g,cap,C,rfl,h6,h7,h8,h9,rfl,Ga,Fo⟩⟩:=h
 ·exact⟨[], [],rfl,h3,h2,by simp,by simpa [AE]using Rd.nil,by simp, .inl ⟨rfl,rfl,a,hv⟩⟩
 ·exact⟨xs,_,rfl,h3,h2,(F5.len ⟨h6,h7,h8,h9,rfl⟩),Fo,Ga, .inr ⟨g,cap,C,rfl,⟨h6,h7,h8,h9,rfl⟩,rfl⟩⟩
theorem cU {P:Program} {w:World} {t el:TypeId} {v:Value} {x:AV} {rf hs:List Nat} (ha:Ao P t=false) (hl:AW P t= [t]) (he:Cr P t=some el) (hf:BQ P el=true) (h:NG P w t [true] v x rf hs):rf= []∧Cw w el (P.cellsOf el) v x hs []:=by
 obtain⟨us,ys,h1,h2⟩:=h;rw [ha]at h1;simp only [BH,if_false]at h1;obtain⟨rfl,rfl⟩:=h1;rw [hl]at h2;cases h2 with
 |own q1 q2 q3 q4 q5=>
  cases q5;rw [he]at q2;cases q2;rcases q3 with⟨_,rfl⟩|⟨h,_⟩
  ·exact⟨rfl,by simpa using q4⟩
  ·rw [hf]at h;cases h
 |deep q1 q2 q3=>rw [he]at q2;cases q2;rw [hf]at q3;cases q3
 |rd q1=>have:=q1 rfl;rw [he]at this;cases this
def YS (P:Program) (sg:BC) (f:Nat) (t it el K:Nat):Bool:=
 match P.funcs[f]?,sg f with
 |some fn,some s=>(match s.b8,s.res,s.ft,s.lo with
  | [.va [true], .ro, .va [true]], [true], [], []=>true
  |_,_,_,_=>false)&&fn.body.isSome&& !(fn.name== "runtime.NumGoroutine")&&fn.params.toList== [t,it,t]&&fn.resultTypes.toList== [t]&&fn.nfree==0&& !Ao P t&&AW P t== [t]&&Cr P t==some el&&BQ P el&&P.cellsOf el==K&&F2 P t [true]&&fn.params.size==3
 |_,_=>false
def YM (P:Program) (sg:BC) (f:Nat) (r:List AV):Bool:=match P.funcs[f]?,sg f with
 |some fn,some s=>KB P fn s (.sl r)
 |_,_=>false
theorem xV {f t it el K:Nat} (hk:YS Tryz.prog B2 f t it el K=true) (EI: ∀r,YM Tryz.prog B2 f r=true) (My:fQ Tryz.prog f el K) (xs ys:List AV) (i:Int) (h0:0≤i) (h1:i≤xs.length) (hy:ys≠ []) (hb:(xs.length+ys.length)*1000≤140737488355328):
  B6 Tryz.prog B2 f [.sl xs, .int .i64 i, .sl ys] (.sl (xs.take i.toNat++ys++xs.drop i.toNat)):=by
 unfold YS at hk;split at hk
 ·rename_i fn s hf hs;simp only [Ad,Bool.not_eq_true',beq_iff_eq]at hk;obtain⟨⟨⟨⟨⟨⟨⟨⟨⟨⟨⟨⟨g1,g2⟩,g3⟩,g4⟩,g5⟩,g6⟩,g7⟩,g8⟩,g9⟩,g10⟩,g11⟩,g12⟩,g13⟩:=hk;obtain⟨hm,hr,CV,BP⟩:s.b8= [.va [true], .ro, .va [true]]∧s.res= [true]∧s.ft= []∧s.lo= []:=by
   split at g1
   ·rename_i a b c d;exact⟨a,b,c,d⟩
   ·cases g1
  unfold B6;rw [if_pos (Nx f s hs)];refine⟨s,hs,fn,hf,g2,g3,by have:=EI (xs.take i.toNat++ys++xs.drop i.toNat);unfold YM at this;rw [hf,hs]at this;exact this,by simp [g6,g13],by simp [CV],fun w vs rf lf A4 As hd _ BW Dv=> ?_⟩;rw [g4,CV,List.append_nil,hm,BP]at As;cases As with
  |lent h _ _ _=>cases h
  | @cons _ _ _ _ v1 vs1 _ _ f1 k1 rf1 lf1 Bu a1 As=>
   cases As with
   |lent h _ _ _=>cases h
   | @cons _ _ _ _ v2 vs2 _ _ f2 k2 rf2 lf2 AU a2 As=>
    cases As with
    |lent h _ _ _=>cases h
    | @cons _ _ _ _ v3 vs3 _ _ f3 k3 rf3 lf3 E4 a3 As=>
     cases As;obtain⟨rfl,r1⟩:=cU g7 g8 g9 g10 a1;obtain⟨rfl,r3⟩:=cU g7 g8 g9 g10 a3;obtain⟨a2,rfl⟩:Rd w [v2] [AV.int .i64 i] f2∧k2= []:=a2;obtain⟨us,rfl2,hI,a2⟩:=SL a2;obtain⟨rfl,rfl⟩:=Kz a2;cases rfl2;obtain⟨xs',cs,e1,p0,p1,p2,p3,p4,p5⟩:=r1.l0;cases e1;obtain⟨ys',cv,e2,_,q1,q2,q3,q4,q5⟩:=r3.l0;cases e2;rw [g11]at p0 p1 p2 p5 q1 q2 q5;obtain⟨vb,vc,VC,rfl,hv,rfl⟩: ∃g cap C,v3= .slice (some ⟨g,0,none⟩) ys.length cap∧F5 w el K g cap C ys.length cv∧k3= [g]:=by
      rcases q5 with⟨h,_⟩|h
      ·exact absurd h hy
      ·exact h
     have vJ:k1++ [vb]=k1++([]++([vb]++ [])):=by simp
     have Ts: ∀g∈k1,vb≠g:=by intro g hg e;subst e;have:=(List.nodup_append.1 BW).2.2 vb hg vb (by simp);exact this rfl
     have wR:0<ys.length:=by cases ys with|nil=>exact absurd rfl hy|cons=>simp
     have hc:=My w v1 xs.length i.toNat cs k1 vb vc ys.length VC cv p2 (by
      rcases p5 with⟨rfl,_,q,rfl⟩|⟨g,cap,C,rfl,h,rfl⟩
      ·exact .inl ⟨rfl,q,rfl⟩
      ·exact .inr ⟨g,cap,C,rfl,h,by simp⟩) (by omega) hv Ts wR hb q4 p4
     rw [show((i.toNat:Nat):Int)=i by omega]at hc;refine hc.mono ?_;rintro e w' ⟨u,rfl,g,cap,C,rfl,⟨z1,z2,z3,z4,z5⟩,Cs,Ex⟩;have HM: ∀{us:List Value} {zs:List AV},Rd w us zs []→Rd w' us zs []:=fun h=>h.frame (by simp);have cut: ∀o n,Rd w ((cs.drop o).take n) (((AE xs).drop o).take n) []:=fun o n=>by
      obtain⟨gg,k1,k2⟩:=p3.piece o n;have:gg= []:=List.eq_nil_iff_forall_not_mem.2 fun b hb=>by simpa using k1 b hb
      rw [this]at k2;exact k2
     obtain⟨t1,t2⟩:=zvc p1 (i:=i.toNat) (by omega);have hmul:=Nat.mul_le_mul_right K (show i.toNat≤xs.length by omega);have CS:Rd w' (cs.take (i.toNat*K)++cv++cs.drop (i.toNat*K)) (AE (xs.take i.toNat++ys++xs.drop i.toNat)) []:=by rw [cS,cS,t1,t2];have c1:=cut 0 (i.toNat*K);have c2:=cut (i.toNat*K) (cs.length-i.toNat*K);rw [List.drop_zero,List.drop_zero]at c1;rw [List.take_of_length_le (by simp),List.take_of_length_le (by rw [List.length_drop,LF _ p1,p2];exact Nat.le_refl _)]at c2;exact(((HM c1).app (HM q3)).app (HM c2))
     have hlen:(xs.take i.toNat++ys++xs.drop i.toNat).length=xs.length+ys.length:=by simp only [Ak,List.length_take,List.length_drop];omega
     have Bh:Cw w' el K (.slice (some ⟨g,0,none⟩) (xs.length+ys.length) cap) (.sl (xs.take i.toNat++ys++xs.drop i.toNat)) [g] []:=by
      refine⟨_,rfl,fun y hy=> ?_,p0, .inr ⟨g,cap,C,by rw [hlen],by rw [hlen];exact z1,z2,z3,z4,rfl, ?_, ?_⟩⟩
      ·rcases Ah.1 hy with hy|hy
       ·rcases Ah.1 hy with hy|hy
        ·exact p1 y (List.mem_of_mem_take hy)
        ·exact q1 y hy
       ·exact p1 y (List.mem_of_mem_drop hy)
      ·rw [hlen,←z5];intro u hu;rcases Ah.1 hu with hu|hu
       ·rcases Ah.1 hu with hu|hu
        ·exact p4 u (List.mem_of_mem_take hu)
        ·exact q4 u hu
       ·exact p4 u (List.mem_of_mem_drop hu)
      ·rw [hlen,←z5];exact CS
     refine⟨_,rfl,⟨⟨_, [], [], [g], [], [],rfl, ?_, ?_,by simp, ?_,by simp⟩,Cs.weaken fun b hb=> .inl (by simp [hb])⟩⟩
     ·rw [g5];show Ef Tryz.prog w' t s.res _ _ [] [g];unfold Ef;rw [hr,if_pos g12];refine⟨[.slice (some ⟨g,0,none⟩) (xs.length+ys.length) cap], [.sl (xs.take i.toNat++ys++xs.drop i.toNat)],by rw [g7];simp, ?_⟩;rw [g8];have:=Ca.own (P:=Tryz.prog) (t:=t) (ts:= []) (fl:= [true]) (us:= []) (ys:= []) (rf:= []) (hs:= []) rfl g9 (.inl ⟨g10,rfl⟩) (by rw [g11];exact Bh) .nil;simpa using this
     ·rw [g4,CV,List.append_nil,hm];exact .va rfl (.ro rfl (.va rfl .nil))
     ·intro b hb;simp only [List.append_nil,List.mem_singleton]at hb;subst hb;exact⟨by rcases Ex with h|h;exact .inl (by simp [h]);exact .inr h,El z3⟩
 ·cases hk
noncomputable def We {α:Type} (xs:List α) (i:Int) (ys:List α):Option (List α):=req (0≤i∧i≤xs.length∧0<ys.length∧(xs.length+ys.length)*1000≤140737488355328) (some (xs.take i.toNat++ys++xs.drop i.toNat))
theorem xU {f t it el K:Nat} (hk:YS Tryz.prog B2 f t it el K=true) (EI: ∀r,YM Tryz.prog B2 f r=true) (My:fQ Tryz.prog f el K) {α:Type} {av:α→AV} {xs ys r:List α} {i:Int} (h:We xs i ys=some r):
  B6 Tryz.prog B2 f [.sl (xs.map av), .int .i64 i, .sl (ys.map av)] (.sl (r.map av)):=by
 obtain⟨⟨h0,h1,h2,h3⟩,h⟩:=F7 h;cases h;have:=xV hk EI My (xs.map av) (ys.map av) i h0 (by simpa using h1) (by cases ys with|nil=>simp at h2|cons=>simp) (by simpa using h3);simpa [List.map_append,List.map_take,List.map_drop]using this
theorem cE: ∃i z,Tryz.prog.info? 74=some i∧i.size=3∧i.zero=some z∧z.cells.size=3∧i.bytes≤1000:=by
 have h:(match Tryz.prog.info? 74 with|some i=>(match i.zero with|some z=>i.size==3&&z.cells.size==3&&decide (i.bytes≤1000)|none=>false)|none=>false)=true:=by kernel_rfl
 split at h
 ·rename_i i hi;split at h
  ·rename_i z hz;simp only [Ad,beq_iff_eq,decide_eq_true_eq]at h;exact⟨i,z,hi,h.1.1,hz,h.1.2,h.2⟩
  ·cases h
 ·cases h
set_option maxHeartbeats 4000000 in
theorem zrc (w:World) (v:Value) (n:Nat) (cs:List Value) (own:List Nat) (Ay:cs.length=n*3) (Bm:(n=0∧ ∃q,v= .slice q 0 0)∨ ∃g cap C,v= .slice (some ⟨g,0,none⟩) n cap∧F5 w 74 3 g cap C n cs∧g∈own)
  (vb vc m:Nat) (VC:Array Value) (vs:List Value) (hv:F5 w 74 3 vb vc VC m vs) (hm:0<m) (hb:(n+m)*1000≤140737488355328) (JO: ∀u∈vs,u.oneCell'=true):
  Calls Tryz.prog 228 #[v, .int .i64 n, .slice (some ⟨vb,0,none⟩) m vc] w fun e w'=> ∃u,e= .returned u∧NK w w' 74 3 own u (n+m) (cs++vs):=by
 obtain⟨i0,z0,hi,hs,hz,Dr,FM⟩:=cE;have TR: ¬((m:Int)=0):=by omega
 have E5:Src w i0.size (some ⟨vb,0,none⟩) m vs:= .inr ⟨_,rfl,by rw [hs];exact hv.len,fun j u hj=>hv.cell 0 j u (by simpa using hj),JO⟩;obtain⟨v',w1,hr,AP⟩:=eG (P:=Tryz.prog) w 47 47 74 i0 z0 Tryz.underlying47 hi hz (by rw [Dr,hs]) (by omega) (fun b=>b∈own) v n cs (by rw [hs];exact Ay)
  (by
   rcases Bm with h|⟨g,cap,C,rfl,⟨h1,h2,h3,h4,h5⟩,h6⟩
   ·exact .inl h
   ·exact .inr ⟨g,cap,C,rfl,h1,h2,h3,by rw [hs];exact h4,by rw [hs];exact h5,h6⟩)
  (some ⟨vb,0,none⟩) m vc vs E5 (by simp only [maxLen];omega) (by have:=Nat.mul_le_mul_left (n+m) FM;omega)
 have fin:NK w w1 74 3 own v' (n+m) (cs++vs):=by
  rcases AP with⟨_,_,h⟩|⟨g,cap,C,rfl,h1,h2,h3,h4,h5,h6,h7⟩
  ·omega
  ·refine⟨g,cap,C,rfl,⟨h1,h2,h3,by rw [hs]at h4;exact h4,by rw [hs]at h5;exact h5.symm⟩, ?_,h7.symm.imp id fun h=>by omega⟩;refine⟨h6.os,h6.tape,h6.output,h6.size,fun b hb hn=>h6.block b hb fun e=> ?_⟩;cases e;rcases h7 with h7|h7
   ·omega
   ·exact hn h7
 clear AP;rcases Bm with⟨rfl,q,rfl⟩|⟨g,cap,C,rfl,_,_⟩
 ·cases q with
  |none=>
   go_enter Tryz.func228,Tryz.ntmps228
   go_wp2_with (at_builtin;refine Lib.wpList_append_run _ rfl _ _ _ _ rfl _ _ rfl rfl _ _ hr ?_)
   all_goals (go_ret;exact⟨_,rfl,fin⟩)
  |some q=>
   obtain⟨qb,qo,qs⟩:=q
   go_enter Tryz.func228,Tryz.ntmps228
   go_wp2_with (at_builtin;refine Lib.wpList_append_run _ rfl _ _ _ _ rfl _ _ rfl rfl _ _ hr ?_)
   all_goals (go_ret;exact⟨_,rfl,fin⟩)
 ·go_enter Tryz.func228,Tryz.ntmps228
  go_wp2_with (at_builtin;refine Lib.wpList_append_run _ rfl _ _ _ _ rfl _ _ rfl rfl _ _ hr ?_)
  all_goals (go_ret;exact⟨_,rfl,fin⟩)
set_option maxHeartbeats 4000000 in
theorem zpI (w:World) (n i g cap:Nat) (C:Array Value) (cs:List Value) (own:List Nat) (vb vc m:Nat) (Bm:F5 w 74 3 g cap C n cs) (B1:i<n) (Cg:cap<n+m)
  (VC:Array Value) (vs:List Value) (hv:F5 w 74 3 vb vc VC m vs) (hm:0<m) (hb:(n+m)*1000≤140737488355328) (JO: ∀u∈vs,u.oneCell'=true) (HK: ∀u∈cs,u.oneCell'=true):
  Calls Tryz.prog 228 #[.slice (some ⟨g,0,none⟩) n cap, .int .i64 i, .slice (some ⟨vb,0,none⟩) m vc] w fun e w'=> ∃u,e= .returned u∧NK w w' 74 3 own u (n+m) (cs.take (i*3)++vs++cs.drop (i*3)):=by
 obtain⟨i0,z0,hi,hs,hz,Dr,FM⟩:=cE;have Ay:=Bm.len;have Dx:=hv.len;have Xf:=Bm;obtain⟨QR,JY,hg,Qf,Bd⟩:=Xf;have uP:g<w.heap.size:=El hg;have hvw:vb<w.heap.size:=El hv.2.2.1;have BJ:(Tryz.prog.info? 74).map (·.size)=some 3:=by rw [hi];simp [hs]
 have XH:i+(n+m-i)=n+m:=by omega
 have Tu:(n+m)*i0.bytes≤140737488355328:=Nat.le_trans (Nat.mul_le_mul_left _ FM) hb;have NW:(n+m-i)*i0.bytes≤140737488355328:=Nat.le_trans (Nat.mul_le_mul_right _ (by omega)) Tu;have hold:(Builtin.firstCells i0.size i (.slice (some ⟨g,0,none⟩) i cap)).run Tryz.prog w.drew= .ok (cs.take (i*3)).toArray w.drew:=by
  rw [hs];exact run_firstCells_some w.drew 3 i ⟨g,0,none⟩ i cap (cs.take (i*3)) (by rw [List.length_take];omega) (fun j v hj=>by
   rw [List.getElem?_take]at hj;split at hj
   ·exact Bm.cell 0 j v (by simpa using hj)
   ·cases hj)
 have Yh: ∀ty,(Builtin.append_ #[47,3] ty #[.slice (some ⟨g,0,none⟩) i cap, .int .i64 ((n:Int)+(m:Int)-(i:Int))]).run Tryz.prog w=
   .ok (.slice (some ⟨w.heap.size,0,none⟩) (n+m) (grownCap w (n+m) cap 74)) (w.drew.alloc (.cells ((cs.take (i*3)).toArray++Builtin.zeroCells z0.cells (n+m-i)++Builtin.zeroCells z0.cells (grownCap w (n+m) cap 74-(n+m))) 74)):=fun ty=>by
  have h:=Lib.run_append_grow_zeros w 47 3 ty 74 i0 z0 .i64 .i64 Tryz.underlying47 Tryz.underlying3 hi hz (some ⟨g,0,none⟩) i cap (cs.take (i*3)) hold (n+m-i) (by omega) (by omega) (by omega) (by omega) (by omega) (by rw [XH];exact growslice_fits Cg Tu);rw [XH]at h;rw [show(n:Int)+(m:Int)-(i:Int)=((n+m-i:Nat):Int) by omega];exact h
 obtain⟨G,hG⟩: ∃G,G=grownCap w (n+m) cap 74:=⟨_,rfl⟩
 obtain⟨ROW,JR⟩: ∃ROW:Array Value,ROW=(cs.take (i*3)).toArray++Builtin.zeroCells z0.cells (n+m-i)++Builtin.zeroCells z0.cells (G-(n+m)):=⟨_,rfl⟩
 have tP:n+m≤G:=by rw [hG];exact grownCap_ge w _ _ _
 have Qh:G≤maxLen:=by rw [hG];exact grownCap_le_maxLen w (n+m) cap 74 (by unfold maxLen;omega)
 have tM:G≤9223372036854775807:=Qh;rw [←hG]at Yh;rw [←JR]at Yh;have tU:ROW.size=G*3:=by rw [JR];simp only [Array.size_append,List.size_toArray,List.length_take,size_zeroCells,Dr];omega
 obtain⟨ROW2,NV⟩: ∃R:Array Value,R=(ROW.toList.take (i*3)++vs++ROW.toList.drop (i*3+vs.length)).toArray:=⟨_,rfl⟩
 obtain⟨ROW3,To⟩: ∃R:Array Value,R=(ROW2.toList.take ((i+m)*3)++cs.drop (i*3)++ROW2.toList.drop ((i+m)*3+(cs.drop (i*3)).length)).toArray:=⟨_,rfl⟩
 have WY:ROW2.size=G*3:=by rw [NV];simp only [List.size_toArray,Ak,List.length_take,List.length_drop,Array.length_toList];omega
 have WZ:ROW3.size=G*3:=by rw [To];simp only [List.size_toArray,Ak,List.length_take,List.length_drop,Array.length_toList];omega
 obtain⟨N,hN⟩: ∃N,N=w.heap.size:=⟨_,rfl⟩
 have hA:(w.alloc (.cells ROW 74)).heap[N]?=some (.cells ROW 74 (0,0)):=by rw [hN];exact heap_alloc_new w _
 have hO: ∀k,k<N→(w.alloc (.cells ROW 74)).heap[k]?=w.heap[k]?:=fun k hk=>Below.heap_alloc w _ k (by omega);have Xk: ∀(W:World),W.heap=(w.alloc (.cells ROW 74)).heap→ ∀ty dc,(Builtin.copy_ #[47,47] ty #[.slice (some ⟨N,i*3,none⟩) (n+m-i) dc, .slice (some ⟨vb,0,none⟩) m vc]).run Tryz.prog W= .ok (goInt m) (W.setRow N ROW2):=fun W hW ty dc=>by
  have h:=U5 (P:=Tryz.prog) W 47 47 ty 74 3 N (i*3) (n+m-i) dc ⟨vb,0,none⟩ m vc ROW 74 vs Tryz.underlying47 BJ (by rw [hW];exact hA) (by rw [Dx,show Nat.min m (n+m-i)=m from Nat.min_eq_left (by omega)])
   (fun j v hj=>by rw [World.cell?_of_block (w:=w) (by rw [Addr.add_lit,hW];exact hO vb (by omega))];exact hv.cell 0 j v (by simpa using hj)) (by rw [tU,Dx];omega) JO
  rw [show Nat.min m (n+m-i)=m from Nat.min_eq_left (by omega),←NV]at h;exact h
 have hB:((w.alloc (.cells ROW 74)).setRow N ROW2).heap[N]?=some (.cells ROW2 74 (0,0)):=setRow_heap _ _ _ _ _ _ hA;have WW: ∀k,k<N→((w.alloc (.cells ROW 74)).setRow N ROW2).heap[k]?=w.heap[k]?:=fun k hk=>by rw [setRow_other _ _ _ _ (by omega)];exact hO k hk
 have Qx: ∀(W:World),W.heap=((w.alloc (.cells ROW 74)).setRow N ROW2).heap→ ∀ty dc sc,(Builtin.copy_ #[47,47] ty #[.slice (some ⟨N,(i+m)*3,none⟩) (n+m-(i+m)) dc, .slice (some ⟨g,i*3,none⟩) (n-i) sc]).run Tryz.prog W= .ok (goInt ((n-i:Nat):Int)) (W.setRow N ROW3):=fun W hW ty dc sc=>by
  have h:=U5 (P:=Tryz.prog) W 47 47 ty 74 3 N ((i+m)*3) (n+m-(i+m)) dc ⟨g,i*3,none⟩ (n-i) sc ROW2 74 (cs.drop (i*3)) Tryz.underlying47 BJ (by rw [hW];exact hB) (by rw [List.length_drop,Ay,show Nat.min (n-i) (n+m-(i+m))=n-i from Nat.min_eq_left (by omega)];omega)
   (fun j v hj=>by rw [World.cell?_of_block (w:=w) (by rw [Addr.add_lit,hW];exact WW g (by omega))];exact Bm.cell (i*3) j v hj) (by rw [WY,List.length_drop,Ay];omega) (fun v hv=>HK v (List.mem_of_mem_drop hv))
  rw [show Nat.min (n-i) (n+m-(i+m))=n-i from Nat.min_eq_left (by omega),←To]at h;exact h
 have fin: ∀W:World,W.os=w.os→W.tape=w.tape→W.output=w.output→W.heap=(((w.alloc (.cells ROW 74)).setRow N ROW2).setRow N ROW3).heap→NK w W 74 3 own (.slice (some ⟨N,0,none⟩) (n+m) G) (n+m) (cs.take (i*3)++vs++cs.drop (i*3)):=fun W w1 w2 w3 hW=>by refine⟨N,G,ROW3,rfl,⟨tP,Qh,by rw [hW];exact setRow_heap _ _ _ _ _ _ hB,WZ, ?_⟩,⟨w1,w2,w3,by rw [hW];simp,fun k hk _=>by rw [hW,setRow_other _ _ _ _ (by omega)];exact WW k (by omega)⟩, .inr (by omega)⟩;have h:=two ((Builtin.zeroCells z0.cells (n+m-i)).toList++(Builtin.zeroCells z0.cells (G-(n+m))).toList) cs vs (i*3) (m*3) (n*3) ROW.toList (by rw [JR];simp) Ay (Nat.mul_le_mul_right _ (by omega)) Dx (by simp only [Ak,Array.length_toList,size_zeroCells,Dr];omega);rw [To,NV,Nat.add_mul n m,Nat.add_mul i m];exact h.symm
 have TR: ¬((m:Int)=0):=by omega
 have Re: ¬((i:Int)=(n:Int)):=by omega
 have wT:(cap:Int)<(n:Int)+(m:Int):=by omega
 have hGi: ¬(G=i):=by omega
 have tO: ¬(G=i+m):=by omega
 have Qu: ¬(cap=i):=by omega
 have GZ:IntKind.i64.wrap ((i:Int)+(m:Int))=(i:Int)+(m:Int):=by rw [IntKind.wrap_i64];omega
 have Hl:(0:Int)≤(i:Int)+(m:Int):=by omega
 have XI:i≤n:=by omega
 have wG:((i:Int)+(m:Int)).toNat=i+m:=by omega
 have W9:(i:Int)≤(n:Int):=by omega
 have fY:((w.alloc (.cells ROW 74)).drew).heap=(w.alloc (.cells ROW 74)).heap:=rfl;have WQ:(((w.alloc (.cells ROW 74)).drew.setRow N ROW2).drew).heap=((w.alloc (.cells ROW 74)).setRow N ROW2).heap:=rfl;subst hN;clear hold XH JR hG NV To hA hO hB WW Bd
 go_enter Tryz.func228,Tryz.ntmps228
 go_wp2_with (first
  |(at_builtin;refine Lib.wpList_append_run _ rfl _ _ _ _ rfl _ _ rfl rfl _ _ (Yh _) ?_)
  |(at_builtin;refine Z8 _ rfl _ _ 47 47 rfl _ _ rfl rfl (Xk _ fY _ _) ?_)
  |(at_builtin;refine Z8 _ rfl _ _ 47 47 rfl _ _ rfl rfl (Qx _ rfl _ _ _) ?_))
 go_region_law (refine mJ rfl _ _ 47 47 rfl (.slice (some ⟨w.heap.size,(i+m)*3,none⟩) (n+m-(i+m)) (G-(i+m))) (.slice (some ⟨g,i*3,none⟩) (n-i) (cap-i)) (by simp [Act.eval,Act.put]) (by simp [Act.eval,Act.put]) (Qx _ WQ 3 (G-(i+m)) (cap-i)) ?_)
 go_wp2
 go_ret
 exact⟨_,rfl,fin _ rfl rfl rfl rfl⟩
set_option maxHeartbeats 4000000 in
theorem znx (w:World) (n i g cap:Nat) (C:Array Value) (cs:List Value) (own:List Nat) (vb vc m:Nat) (Bm:F5 w 74 3 g cap C n cs) (Ex:g∈own) (B1:i<n) (Cg:n+m≤cap) (TM:vb≠g)
  (VC:Array Value) (vs:List Value) (hv:F5 w 74 3 vb vc VC m vs) (hm:0<m) (hb:(n+m)*1000≤140737488355328) (JO: ∀u∈vs,u.oneCell'=true) (HK: ∀u∈cs,u.oneCell'=true):
  Calls Tryz.prog 228 #[.slice (some ⟨g,0,none⟩) n cap, .int .i64 i, .slice (some ⟨vb,0,none⟩) m vc] w fun e w'=> ∃u,e= .returned u∧NK w w' 74 3 own u (n+m) (cs.take (i*3)++vs++cs.drop (i*3)):=by
 obtain⟨i0,z0,hi,hs,hz,Dr,FM⟩:=cE;have Ay:=Bm.len;have Dx:=hv.len;have Xf:=Bm;obtain⟨QR,JY,hg,Qf,Bd⟩:=Xf;have uP:g<w.heap.size:=El hg;have BJ:(Tryz.prog.info? 74).map (·.size)=some 3:=by rw [hi];simp [hs]
 have uF:cap≤9223372036854775807:=JY;have Oe:=hv.2.2.1;have X8: ∀lb cb,(callFunc 269 #[.slice (some ⟨vb,0,none⟩) m vc, .slice (some ⟨g,(i+m)*3,none⟩) lb cb]).run Tryz.prog w= .ok (.value (.bool false)) w:=fun lb cb=>by
  rw [run_callFunc_extern Tryz.func269 (by kernel_rfl) (by kernel_rfl) (by kernel_rfl) (e:=Extern.SlicesOverlaps.overlaps #[47,47] #[4]) (by kernel_rfl),
   Lib.run_overlaps_apart w 47 4 74 Tryz.underlying47 3 (fun w=>by simp [Go.sizeOf,typeInfo,hi,hs]) ⟨vb,0,none⟩ ⟨g,(i+m)*3,none⟩ m vc lb cb TM 74 74 VC.size C.size (by simp [World.shape?,Oe]) (by simp [World.shape?,hg]) (by omega) (by simp [World.frozen?,Oe]) (by simp [World.frozen?,Oe])]
  rfl
 obtain⟨C1,JP⟩: ∃R:Array Value,R=(C.toList.take ((i+m)*3)++cs.drop (i*3)++C.toList.drop ((i+m)*3+(cs.drop (i*3)).length)).toArray:=⟨_,rfl⟩
 obtain⟨C2,Tk⟩: ∃R:Array Value,R=(C1.toList.take (i*3)++vs++C1.toList.drop (i*3+vs.length)).toArray:=⟨_,rfl⟩
 have WN:C1.size=cap*3:=by rw [JP];simp only [List.size_toArray,Ak,List.length_take,List.length_drop,Array.length_toList];omega
 have WO:C2.size=cap*3:=by rw [Tk];simp only [List.size_toArray,Ak,List.length_take,List.length_drop,Array.length_toList];omega
 have Xi: ∀(W:World),W.heap=w.heap→ ∀ty dc sc,(Builtin.copy_ #[47,47] ty #[.slice (some ⟨g,(i+m)*3,none⟩) (n+m-(i+m)) dc, .slice (some ⟨g,i*3,none⟩) (n+m-i) sc]).run Tryz.prog W= .ok (goInt ((n-i:Nat):Int)) (W.setRow g C1):=fun W hW ty dc sc=>by
  have h:=U5 (P:=Tryz.prog) W 47 47 ty 74 3 g ((i+m)*3) (n+m-(i+m)) dc ⟨g,i*3,none⟩ (n+m-i) sc C 74 (cs.drop (i*3)) Tryz.underlying47 BJ (by rw [hW];exact hg) (by rw [List.length_drop,Ay,show Nat.min (n+m-i) (n+m-(i+m))=n-i from by rw [show Nat.min (n+m-i) (n+m-(i+m))=n+m-(i+m)from Nat.min_eq_right (by omega)];omega];omega)
   (fun j v hj=>by rw [World.cell?_of_block (w:=w) (by rw [hW])];exact Bm.cell (i*3) j v hj) (by rw [Qf,List.length_drop,Ay];omega) (fun v hv=>HK v (List.mem_of_mem_drop hv))
  rw [show Nat.min (n+m-i) (n+m-(i+m))=n-i from by rw [show Nat.min (n+m-i) (n+m-(i+m))=n+m-(i+m)from Nat.min_eq_right (by omega)];omega,←JP]at h;exact h
 have hB:(w.setRow g C1).heap[g]?=some (.cells C1 74 (0,0)):=setRow_heap _ _ _ _ _ _ hg;have Xj: ∀(W:World),W.heap=(w.setRow g C1).heap→ ∀ty dc,(Builtin.copy_ #[47,47] ty #[.slice (some ⟨g,i*3,none⟩) (n+m-i) dc, .slice (some ⟨vb,0,none⟩) m vc]).run Tryz.prog W= .ok (goInt m) (W.setRow g C2):=fun W hW ty dc=>by
  have h:=U5 (P:=Tryz.prog) W 47 47 ty 74 3 g (i*3) (n+m-i) dc ⟨vb,0,none⟩ m vc C1 74 vs Tryz.underlying47 BJ (by rw [hW];exact hB) (by rw [Dx,show Nat.min m (n+m-i)=m from Nat.min_eq_left (by omega)])
   (fun j v hj=>by rw [World.cell?_of_block (w:=w) (by rw [Addr.add_lit,hW];exact setRow_other _ _ _ _ (by simpa using TM))];exact hv.cell 0 j v (by simpa using hj)) (by rw [WN,Dx];omega) JO
  rw [show Nat.min m (n+m-i)=m from Nat.min_eq_left (by omega),←Tk]at h;exact h
 have fin: ∀W:World,W.os=w.os→W.tape=w.tape→W.output=w.output→W.heap=((w.setRow g C1).setRow g C2).heap→NK w W 74 3 own (.slice (some ⟨g,0,none⟩) (n+m) cap) (n+m) (cs.take (i*3)++vs++cs.drop (i*3)):=fun W w1 w2 w3 hW=>by refine⟨g,cap,C2,rfl,⟨Cg,JY,by rw [hW];exact setRow_heap _ _ _ _ _ _ hB,WO, ?_⟩,⟨w1,w2,w3,by rw [hW];simp,fun k hk hn=>by rw [hW,setRow_other _ _ _ _ (fun e=>hn (by first|(rw [e];exact Ex)|(rw [←e];exact Ex))),setRow_other _ _ _ _ (fun e=>hn (by first|(rw [e];exact Ex)|(rw [←e];exact Ex)))]⟩, .inl Ex⟩;have h:=x7 C.toList cs vs (i*3) (m*3) (n*3) Bd (Nat.mul_le_mul_right _ (by omega)) Dx (by rw [Array.length_toList,Qf];omega);rw [Tk,JP,Nat.add_mul n m,Nat.add_mul i m];exact h.symm
 have TR: ¬((m:Int)=0):=by omega
 have Re: ¬((i:Int)=(n:Int)):=by omega
 have wT: ¬((cap:Int)<(n:Int)+(m:Int)):=by omega
 have Qu: ¬(cap=i):=by omega
 have uH: ¬(cap=i+m):=by omega
 have GZ:IntKind.i64.wrap ((i:Int)+(m:Int))=(i:Int)+(m:Int):=by rw [IntKind.wrap_i64];omega
 have Hl:(0:Int)≤(i:Int)+(m:Int):=by omega
 have XI:i≤n:=by omega
 have wG:((i:Int)+(m:Int)).toNat=i+m:=by omega
 have W9:(i:Int)≤(n:Int):=by omega
 have hb4:(i:Int)≤(n:Int)+(m:Int):=by omega
 have WQ:(w.drew).heap=w.heap:=rfl;have tL:(w.drew.setRow g C1).heap=(w.setRow g C1).heap:=rfl;clear JP Tk hB Bd Oe hg
 go_enter Tryz.func228,Tryz.ntmps228
 go_wp2_with (simp only [X8])
 go_region_law (refine mJ rfl _ _ 47 47 rfl (.slice (some ⟨g,(i+m)*3,none⟩) (n+m-(i+m)) (cap-(i+m))) (.slice (some ⟨g,i*3,none⟩) (n+m-i) (cap-i)) (by simp [Act.eval,Act.put]) (by simp [Act.eval,Act.put]) (Xi _ WQ 3 (cap-(i+m)) (cap-i)) ?_)
 go_wp2_with (at_builtin;refine Z8 _ rfl _ _ 47 47 rfl _ _ rfl rfl (Xj _ tL _ _) ?_)
 go_ret
 exact⟨_,rfl,fin _ rfl rfl rfl rfl⟩
theorem zxG:fQ Tryz.prog 228 74 3:=by
 intro w v n i cs own vb vc m VC vs Ay Bm B1 hv TM hm hb JO HK;by_cases he:i=n
 ·subst he;refine(zrc w v i cs own Ay Bm vb vc m VC vs hv hm hb JO).mono ?_;rintro e w' ⟨u,rfl,h⟩;refine⟨u,rfl, ?_⟩;rw [List.take_of_length_le (by omega),List.drop_eq_nil_of_le (by omega),List.append_nil];exact h
 ·rcases Bm with⟨rfl,_⟩|⟨g,cap,C,rfl,hr,hg⟩
  ·omega
  ·by_cases hc:n+m≤cap
   ·exact znx w n i g cap C cs own vb vc m hr hg (by omega) hc (TM g hg) VC vs hv hm hb JO HK
   ·exact zpI w n i g cap C cs own vb vc m hr (by omega) (by omega) VC vs hv hm hb JO HK
end Go.Proofs.YtollgpkegmbpmaaGreatDoor
end
section
namespace Go.Proofs.YtollgpkegmbpmaaGreatDoor
open Go Go.Proofs Go.Shelf Go.Sort Go.RowKit
set_option maxRecDepth 100000
set_option maxHeartbeats 1000000
def jK (P:Program) (sg:BC) (f np:Nat) (r:AV):Bool:=
 match P.funcs[f]?,sg f with
 |some fn,some s=>fn.body.isSome&& !(fn.name== "runtime.NumGoroutine")&&KB P fn s r&&s.b8.all (fun m=>match m with| .ro=>true|_=>false)&&fn.params.size==np&&fn.nfree==0&&(s.ft.isEmpty&&s.lo.isEmpty)&&(match fn.resultTypes.toList with| [t,u]=> !F2 P t s.res&& !F2 P u (s.res.drop (AW P t).length)|_=>false)
 |_,_=>false
theorem zyY {f:Nat} {xs:List AV} {y1 y2:AV} (hk:jK Tryz.prog B2 f xs.length (.tup [y1,y2])=true) (hc: ∀(w:World) (vs:List Value) (rf:List Nat),E9.n≤w.heap.size→E9.K w→Rd w vs xs rf→Calls Tryz.prog f vs.toArray w fun e w'=>Mod [] w w'∧ ∃v1 v2 f1 f2,e= .returned (.tuple #[v1,v2])∧Rd w' [v1] [y1] f1∧Rd w' [v2] [y2] f2∧ ∀b∈f1++f2,b∈rf∨w.heap.size≤b):B6 Tryz.prog B2 f xs (.tup [y1,y2]):=by
 unfold jK at hk;split at hk
 ·rename_i fn s hf hs;simp only [Ad,Bool.not_eq_true',beq_iff_eq,AS]at hk;obtain⟨⟨⟨⟨⟨⟨⟨h1,h2⟩,h3⟩,h4⟩,h5⟩,h6⟩,CV⟩,h7⟩:=hk;obtain⟨CV,BP⟩:s.ft= []∧s.lo= []:=by simpa using CV
  have EN: ∀m∈s.b8,m= .ro:=fun m hm=>by
   have:=h4 m hm;split at this
   ·rfl
   ·cases this
  unfold B6;rw [if_pos (Nx f s hs)];refine⟨s,hs,fn,hf,h1,h2,h3,by omega,by simp [CV],fun w vs rf lf A4 As hd _ BW Dv=> ?_⟩;obtain⟨hr,rfl⟩:=As.rd BP EN;refine(hc w vs rf Dv.1 Dv.2.1 hr).mono ?_;rintro e w' ⟨hm,v1,v2,f1,f2,rfl,Ek,CW,hb⟩;refine⟨_,rfl,⟨⟨.tup [y1,y2], [],f1++f2, [], [], [],rfl, ?_,C8.je ?_ EN,by simp,by simp,fun b BL=>⟨by simp, ?_⟩⟩,hm⟩⟩
  ·split at h7
   ·rename_i t u ht;simp only [Ad,Bool.not_eq_true']at h7;rw [ht];refine⟨[v1,v2], [y1,y2],rfl,rfl, ?_⟩;have a1:Ef Tryz.prog w' t s.res v1 y1 f1 []:=by
     unfold Ef;rw [if_neg (by rw [h7.1];simp)];exact⟨Ek,rfl⟩
    have a2:Ef Tryz.prog w' u (s.res.drop (AW Tryz.prog t).length) v2 y2 f2 []:=by unfold Ef;rw [if_neg (by rw [h7.2];simp)];exact⟨CW,rfl⟩
    have:=H4.cons a1 (H4.cons a2 (H4.nil (P:=Tryz.prog) (w:=w') (fl:=(s.res.drop (AW Tryz.prog t).length).drop (AW Tryz.prog u).length)));simpa using this
   ·cases h7
  ·rw [hr.len];simp [CV];omega
  ·rcases hb b (by simpa using BL)with h|h
   ·exact .inl h
   ·exact .inr (.inr h)
 ·cases hk
def ZS (n:Int):Option (List UInt8):=some (Lib.itoa n)
theorem rA {w:World} (h:E9.K w):Lib.TabIs Tryz.prog w "internal/strconv.uint64pow10" .u64 Lib.pow10Tab:=by obtain⟨_,_,k⟩:=h;exact k.trans (by kernel_rfl)
theorem zyn (n:Int) (h0: -9223372036854775808≤n) (h1:n≤9223372036854775807):(Lib.itoa n).length≤9223372036854775807:=by
 have key: ∀(k u:Nat),u<10^k→(Lib.decDigits u).length≤k+1:=by
  intro k
  induction k with
  |zero=>intro u hu;rw [Lib.decDigits,dif_pos (by omega)];simp
  |succ k ih=>
   intro u hu;rw [Lib.decDigits];split
   ·simp
   ·rw [Ak,Aw];have:=ih (u/10) (by rw [Nat.pow_succ]at hu;omega);omega
 unfold Lib.itoa;split
 ·rw [Am];have:=key 20 n.natAbs (by omega);omega
 ·have:=key 20 n.toNat (by omega)
  omega
theorem TT {n:Int} (h:Eg .i64 n): -9223372036854775808≤n∧n≤9223372036854775807:=by unfold Eg at h;rw [IntKind.wrap_i64]at h;omega
theorem qA (w:World) (k:Nat) (os:Array Obj):Mod [] w (grow (w.drewN k) os):=by
 refine⟨rfl,rfl,rfl, ?_,fun b hb _=> ?_⟩
 ·show w.heap.size≤(w.heap++os).size;rw [Array.size_append];omega
 ·show(w.heap++os)[b]?=w.heap[b]?;rw [Array.getElem?_append_left hb]
theorem zpF (a0:Int) (r:List UInt8) (h:ZS a0=some r):B6 Tryz.prog B2 183 [.int .i64 a0] (.str r):=pH (by kernel_rfl) fun w vs rf hK hr=>by obtain⟨us,rfl,hn,hr⟩:=SL hr;obtain⟨rfl,rfl⟩:=Kz hr;cases h;refine(Tryz.strconv_Itoa a0 (TT hn).1 (TT hn).2 w (rA hK)).mono ?_;rintro e w' ⟨rfl,k,os,rfl⟩;have hl:=zyn a0 (TT hn).1 (TT hn).2;exact⟨qA w k os,_, [],rfl,by have:=Rd.str (w:=grow (w.drewN k) os) (s:=⟨(Lib.itoa a0).toArray⟩) (vs:= []) (xs:= []) (f:= []) (by show(Lib.itoa a0).toArray.size≤_;simpa using hl) .nil;simpa using this,by simp⟩
theorem zv3 (w:World) (ty:TypeId) (t:ByteArray):Mod [] w (Lib.bytesWorld w ty t):=Mod.dz (Lib.bytesWorld_below w ty t) (Nat.le_refl _)
theorem pB (a b c:Int) (w:World):Calls Tryz.prog 107 #[.int .i64 a, .int .i64 b, .int .i64 c] w fun e w'=>e= .returned (.bool (decide (a≥b)&&decide (a≤c)))∧w'=w:=by
 by_cases h1:a≥b
 ·go_enter Tryz.func107,Tryz.ntmps107
  go_wp2
  go_ret
  simp [h1]
 ·go_enter Tryz.func107,Tryz.ntmps107
  go_wp2
  go_ret
  simp;intro h;omega
def L0 (s:List UInt8) (lo hi:Int):Int × Bool:=match Lib.atoiAll s with
 | .ok n=>if lo≤n∧n≤hi∧Lib.itoa n=s then(n,true)else(0,false)
 |_=>(0,false)
theorem zyd {s:ByteArray} {w:World} (hs:s.size≤281474976710656) (hK:E9.K w) (h: ∀v,Lib.atoiAll s.data.toList≠ .ok v):
  Calls Tryz.prog 271 #[.string s] w fun e w'=> ∃v te N,e= .returned (.tuple #[.int .i64 v, .iface te (.pointer (some ⟨N,0,none⟩))])∧Mod [] w w':=by
 obtain⟨⟨t1,p1,k1⟩,⟨t2,p2,k2⟩,_⟩:=hK;rcases hA:Lib.atoiAll s.data.toList with v|_|_
 ·exact absurd hA (h v)
 ·exact(Any.strconv_Atoi_syntax_var Tryz.fh s hs hA t1 p1 w k1).mono fun e w' ⟨N,he,_,_,hB⟩=>⟨_,_,_,he,Mod.dz hB (Nat.le_refl _)⟩
 ·exact(Any.strconv_Atoi_range_var Tryz.fh s hs hA t2 p2 w k2).mono fun e w' ⟨N,he,_,_,hB⟩=>⟨_,_,_,he,Mod.dz hB (Nat.le_refl _)⟩
theorem zwN {s:ByteArray} {lo hi:Int} {w:World} (hc:Calls Tryz.prog 271 #[.string s] w fun e w'=> ∃v te N,e= .returned (.tuple #[.int .i64 v, .iface te (.pointer (some ⟨N,0,none⟩))])∧Mod [] w w'):
  Calls Tryz.prog 231 #[.string s, .int .i64 lo, .int .i64 hi] w fun e w'=>e= .returned (.tuple #[.int .i64 0, .bool false])∧Mod [] w w':=by
 go_enter Tryz.func231,Tryz.ntmps231
 go_wp2_with (go_at_call 271;refine hc.mono ?_;rintro e w' ⟨v,te,N,rfl,hm⟩)
 go_ret2
 exact⟨rfl,hm⟩
section
variable (s:ByteArray) (n lo hi:Int) (w:World)
def P3:Prop:=Calls Tryz.prog 271 #[.string s] w fun e w'=>e= .returned (.tuple #[.int .i64 n, .nilIface])∧Mod [] w w'
theorem zxb (hA:P3 s n w) (hw: ∀W,Calls Tryz.prog 107 #[.int .i64 n, .int .i64 lo, .int .i64 hi] W fun e w'=>e= .returned (.bool false)∧w'=W):
  Calls Tryz.prog 231 #[.string s, .int .i64 lo, .int .i64 hi] w fun e w'=>e= .returned (.tuple #[.int .i64 0, .bool false])∧Mod [] w w':=by
 unfold P3 at hA
 go_enter Tryz.func231,Tryz.ntmps231
 go_wp2_with (first|(go_at_call 271;refine hA.mono ?_;rintro e W1 ⟨rfl,hm⟩)|(go_at_call 107;refine(hw _).mono ?_;rintro e W2 ⟨rfl,rfl⟩))
 go_ret2
 exact⟨rfl,hm⟩
theorem zvT (q:ByteArray) (hq:(q.toList==s.toList)=false) (hA:P3 s n w) (hw: ∀W,Calls Tryz.prog 107 #[.int .i64 n, .int .i64 lo, .int .i64 hi] W fun e w'=>e= .returned (.bool true)∧w'=W)
  (hI: ∀W1,Mod [] w W1→Calls Tryz.prog 183 #[.int .i64 n] W1 fun e w'=>e= .returned (.string q)∧Mod [] w w'):
  Calls Tryz.prog 231 #[.string s, .int .i64 lo, .int .i64 hi] w fun e w'=>e= .returned (.tuple #[.int .i64 0, .bool false])∧Mod [] w w':=by
 unfold P3 at hA
 go_enter Tryz.func231,Tryz.ntmps231
 go_wp2_with (first|(go_at_call 271;refine hA.mono ?_;rintro e W1 ⟨rfl,hm⟩)|(go_at_call 107;refine(hw _).mono ?_;rintro e W2 ⟨rfl,rfl⟩)|(go_at_call 183;refine(hI _ hm).mono ?_;rintro e W3 ⟨rfl,Oa⟩))
 go_ret2
 exact⟨rfl,Oa⟩
theorem zwM (hA:P3 s n w) (hw: ∀W,Calls Tryz.prog 107 #[.int .i64 n, .int .i64 lo, .int .i64 hi] W fun e w'=>e= .returned (.bool true)∧w'=W)
  (hI: ∀W1,Mod [] w W1→Calls Tryz.prog 183 #[.int .i64 n] W1 fun e w'=>e= .returned (.string s)∧Mod [] w w'):
  Calls Tryz.prog 231 #[.string s, .int .i64 lo, .int .i64 hi] w fun e w'=>e= .returned (.tuple #[.int .i64 n, .bool true])∧Mod [] w w':=by
 unfold P3 at hA
 go_enter Tryz.func231,Tryz.ntmps231
 go_wp2_with (first|(go_at_call 271;refine hA.mono ?_;rintro e W1 ⟨rfl,hm⟩)|(go_at_call 107;refine(hw _).mono ?_;rintro e W2 ⟨rfl,rfl⟩)|(go_at_call 183;refine(hI _ hm).mono ?_;rintro e W3 ⟨rfl,Oa⟩))
 go_ret2
 exact⟨rfl,Oa⟩
end
theorem zwh (s:ByteArray) (lo hi:Int) (w:World) (hs:s.size≤281474976710656) (hN:E9.n≤w.heap.size) (hK:E9.K w):Calls Tryz.prog 231 #[.string s, .int .i64 lo, .int .i64 hi] w fun e w'=>e= .returned (.tuple #[.int .i64 (L0 s.data.toList lo hi).1, .bool (L0 s.data.toList lo hi).2])∧Mod [] w w':=by
 by_cases AF: ∃n,Lib.atoiAll s.data.toList= .ok n
 ·obtain⟨n,hA⟩:=AF;have hR:L0 s.data.toList lo hi=if lo≤n∧n≤hi∧Lib.itoa n=s.data.toList then(n,true)else(0,false):=by
   unfold L0;rw [hA]
  rw [hR];obtain⟨b0,b1⟩:=Lib.atoiAll_bounds hA;have WM:Calls Tryz.prog 271 #[.string s] w fun e w'=>e= .returned (.tuple #[.int .i64 n, .nilIface])∧Mod [] w w':=by
   refine(Tryz.strconv_Atoi_ok s (by omega) n hA w).mono ?_;rintro e w' ⟨rfl,h|⟨t,h⟩⟩
   ·subst h;exact⟨rfl,Mod.refl _ _⟩
   ·subst h;exact⟨rfl,zv3 w _ t⟩
  have hI: ∀W1,Mod [] w W1→Calls Tryz.prog 183 #[.int .i64 n] W1 fun e w'=>e= .returned (.string ⟨(Lib.itoa n).toArray⟩)∧Mod [] w w':=by intro W1 hm;have WR:E9.K W1:=E9.mono (fun b hb=>hm.block b (Nat.lt_of_lt_of_le hb hN) (by simp)) hK;refine(Tryz.strconv_Itoa n b0 b1 W1 (rA WR)).mono ?_;rintro e w' ⟨rfl,k,os,rfl⟩;exact⟨rfl,hm.trans (qA W1 k os) (by simp)⟩
  by_cases h1:n≥lo∧n≤hi
  ·have hw: ∀W,Calls Tryz.prog 107 #[.int .i64 n, .int .i64 lo, .int .i64 hi] W fun e w'=>e= .returned (.bool true)∧w'=W:=fun W=>by
    have:=pB n lo hi W;rwa [show(decide (n≥lo)&&decide (n≤hi))=true by simp [h1.1,h1.2]]at this
   by_cases h3:Lib.itoa n=s.data.toList
   ·have E4:(⟨(Lib.itoa n).toArray⟩:ByteArray)=s:=by rw [h3]
    rw [E4]at hI;simp only [if_pos (⟨h1.1,h1.2,h3⟩:lo≤n∧n≤hi∧Lib.itoa n=s.data.toList)];exact zwM s n lo hi w WM hw hI
   ·have E4:((⟨(Lib.itoa n).toArray⟩:ByteArray).toList==s.toList)=false:=by
     rw [lJ,beq_eq_false_iff_ne];exact h3
    simp only [if_neg (fun h:lo≤n∧n≤hi∧Lib.itoa n=s.data.toList=>h3 h.2.2)];exact zvT s n lo hi w _ E4 WM hw hI
  ·have hw: ∀W,Calls Tryz.prog 107 #[.int .i64 n, .int .i64 lo, .int .i64 hi] W fun e w'=>e= .returned (.bool false)∧w'=W:=fun W=>by
    have:=pB n lo hi W;rwa [show(decide (n≥lo)&&decide (n≤hi))=false by simp;omega]at this
   simp only [if_neg (fun h:lo≤n∧n≤hi∧Lib.itoa n=s.data.toList=>h1 ⟨h.1,h.2.1⟩)];exact zxb s n lo hi w WM hw
 ·have hR:L0 s.data.toList lo hi=(0,false):=by
   unfold L0;split
   ·rename_i n hn;exact absurd ⟨n,hn⟩ AF
   ·rfl
  rw [hR];exact zwN (zyd hs hK fun v hv=>AF ⟨v,hv⟩)
noncomputable def Vg (s:List UInt8) (lo hi:Int):Option (Int × Bool):=req (s.length≤281474976710656) (some (L0 s lo hi))
theorem zo8 (a0:List UInt8) (a1 a2:Int) (r:Int × Bool) (h:Vg a0 a1 a2=some r):B6 Tryz.prog B2 231 [.str a0, .int .i64 a1, .int .i64 a2] (.tup [.int .i64 r.1, .bool r.2]):=by
 obtain⟨hl,h⟩:=F7 h;refine zyY (by kernel_rfl) fun w vs rf hN hK hr=> ?_;obtain⟨s,us,rfl,hs,hz,hr⟩:=KM hr;obtain⟨us1,rfl,_,hr⟩:=SL hr;obtain⟨us2,rfl,_,hr⟩:=SL hr;obtain⟨rfl,rfl⟩:=Kz hr;subst hs;cases h;refine(zwh s a1 a2 w (by simpa using hl) hN hK).mono ?_;rintro e w' ⟨rfl,hm⟩;refine⟨hm,_,_, [], [],rfl, .int ?_ .nil, .bool .nil,by simp⟩;unfold L0;split
 ·rename_i n hn;have:=Lib.atoiAll_bounds hn;split
  ·exact B3 this.1 this.2
  ·exact B3 (by decide) (by decide)
 ·exact B3 (by decide) (by decide)
end Go.Proofs.YtollgpkegmbpmaaGreatDoor
end
section
namespace Go.Proofs.YtollgpkegmbpmaaGreatDoor
open Go.RowKit Go.Sort
def DE {α:Type} (av:α→AV) (x:α):List Value:=(av x).cells.map AV.val
theorem yT {w:World}: ∀{cs:List Value} {ys:List AV} {f:List Nat},Rd w cs ys f→(∀y∈ys,y.scalar=true)→cs=ys.map AV.val:=by
 intro cs ys f h
 induction h with
 |nil=>intro _;rfl
 |int _ _ ih=>intro hy;rw [ih fun y m=>hy y (by simp [m])];rfl
 |bool _ ih=>intro hy;rw [ih fun y m=>hy y (by simp [m])];rfl
 |str _ _ ih=>intro hy;rw [ih fun y m=>hy y (by simp [m])];rfl
 |_=>intro hy;first|(have:=hy _ (List.mem_cons_self ..);simp [AV.scalar]at this)
section
variable {α:Type} {av:α→AV} {k:Nat}
theorem pG (Dw: ∀x,∀y∈(av x).cells,y.scalar=true) {w:World}: ∀{xs:List α} {cs:List Value},Rd w cs (AE (xs.map av)) []→cs=xs.flatMap (DE av)∧ ∀x∈xs,Rd w (DE av x) (av x).cells []
 | [],cs,h=>by have:AE (List.map av [])= []:=rfl;rw [this]at h;cases h;exact⟨rfl,by simp⟩
 |x::xs,cs,h=>by
  have e:AE ((x::xs).map av)=(av x).cells++AE (xs.map av):=by simp [AE]
  rw [e]at h;have hl:=h.len;have e2:cs=cs.take (av x).cells.length++cs.drop (av x).cells.length:=(List.take_append_drop _ _).symm;rw [e2]at h;obtain⟨f1,f2,hf,h1,h2⟩:=Rd.dv (by rw [List.length_take,hl];simp) h;obtain⟨rfl,rfl⟩:f1= []∧f2= []:=by simpa using hf.symm
  obtain⟨g1,g2⟩:=pG Dw h2;have g3:=yT h1 (Dw x);refine⟨by rw [e2,g3,g1];simp [DE],fun y hy=> ?_⟩;rcases Ae.1 hy with rfl|hy
  ·unfold DE;rw [←g3];exact h1
  ·exact g2 y hy
theorem rV {w:World}: ∀{xs:List α},(∀x∈xs,Rd w (DE av x) (av x).cells [])→Rd w (xs.flatMap (DE av)) (AE (xs.map av)) []
 | [],_=>by simpa [AE]using Rd.nil
 |x::xs,h=>by
  have e:AE ((x::xs).map av)=(av x).cells++AE (xs.map av):=by simp [AE]
  rw [e,List.flatMap_cons];exact(h x (by simp)).app (rV fun y hy=>h y (by simp [hy]))
variable [Inhabited α]
omit [Inhabited α]in
theorem mZ {j n k:Nat} (h:j<n*k):0<k:=by
 cases k with
 |zero=>simp at h
 |succ k=>omega
omit [Inhabited α]in
theorem qW {enc:α→List Value} (hk: ∀x,(enc x).length=k): ∀(l:List α),(l.flatMap enc).length=l.length*k
 | []=>by simp
 |x::l=>by simp only [List.flatMap_cons,Ak,hk,qW hk l,Am,Nat.add_mul];omega
theorem pJ {enc:α→List Value} (hk: ∀x,(enc x).length=k): ∀(l:List α) (j:Nat),j<l.length*k→(l.flatMap enc)[j]?=(enc l[j/k]!)[j % k]?
 | [],j,h=>by simp at h
 |x::l,j,h=>by
  have k0:0<k:=mZ h;rw [List.flatMap_cons];by_cases hj:j<k
  ·rw [List.getElem?_append_left (by rw [hk];exact hj),Nat.div_eq_of_lt hj,Nat.mod_eq_of_lt hj];rfl
  ·rw [List.getElem?_append_right (by rw [hk];omega),hk,pJ hk l (j-k) (by simp only [Am,Nat.add_mul]at h;omega)];obtain⟨i,rfl⟩: ∃i,j=i+k:=⟨j-k,by omega⟩
   rw [Nat.add_sub_cancel,Nat.add_div_right _ k0,Nat.add_mod_right];rfl
theorem nK {enc:α→List Value} (hk: ∀x,(enc x).length=k) (d:Array α):(flatK enc k d).toList=d.toList.flatMap enc:=by
 apply List.ext_getElem?;intro j;by_cases hj:j<d.size*k
 ·have k0:0<k:=mZ hj;have hd:j/k<d.size:=Nat.div_lt_of_lt_mul (by rw [Nat.mul_comm];exact hj);have hm:j % k<k:=Nat.mod_lt _ k0;rw [pJ hk _ _ (by simpa using hj)];have h1:=get_flatK enc k d j hj;rw [Array.getElem?_toList,Array.getElem?_eq_getElem (by simpa using hj),←getElem!_pos (flatK enc k d) j (by simpa using hj),h1];rw [show(d.toList[j/k]!)=(d[j/k]!) by simp [hd],List.getElem?_eq_getElem (by rw [hk];exact hm),getElem!_pos _ _ (by rw [hk];exact hm)]
 ·rw [List.getElem?_eq_none (by simpa using hj),List.getElem?_eq_none (by rw [qW hk];simpa using hj)]
theorem zrn (F C:Array Value) (h:F.size≤C.size):(Go.Sort.putCells id 0 F C).toList.take F.size=F.toList:=by
 apply List.ext_getElem?;intro j;by_cases hj:j<F.size
 ·have hc:j<C.size:=by omega
  simp [Go.Sort.putCells,List.getElem?_take,hj,hc]
 ·rw [List.getElem?_eq_none (by simp;omega),List.getElem?_eq_none (by simpa using hj)]
theorem ztJ {enc:α→List Value} {w:World} {g m:Nat} {C:Array Value} {el:TypeId} {d:Array α} {os:Array Obj} (h:w.heap[g]?=some (.cells C el (0,0))):
  (sortWorldK enc k w g 0 m d os).heap[g]?=some (.cells (Go.Sort.putCells id 0 (flatK enc k d) C) el (0,0)):=by
 have hg:=El h;show((w.heap.modify g (onCells (Go.Sort.putCells id 0 (flatK enc k d))))++os)[g]?=_;rw [Array.getElem?_append_left (by simpa using hg),Array.getElem?_modify,if_pos rfl,h];rfl
theorem zvn {enc:α→List Value} {w:World} {g m:Nat} {d:Array α} {os:Array Obj}:Mod [g] w (sortWorldK enc k w g 0 m d os):=by
 refine⟨rfl,rfl,rfl, ?_,fun j hj hn=> ?_⟩
 ·show w.heap.size≤((w.heap.modify g (onCells (Go.Sort.putCells id 0 (flatK enc k d))))++os).size;simp
 ·show((w.heap.modify g (onCells (Go.Sort.putCells id 0 (flatK enc k d))))++os)[j]?=_;rw [Array.getElem?_append_left (by simpa using hj),Array.getElem?_modify,if_neg (by simpa [eq_comm]using hn)]
end
def jF (P:Program) (sg:BC) (f:Nat) (t ft el K:Nat):Bool:=
 match P.funcs[f]?,sg f with
 |some fn,some s=>(match s.b8,s.res,s.ft,s.lo with
  | [.mu [true], .ro], [], [], []=>true
  |_,_,_,_=>false)&&fn.body.isSome&& !(fn.name== "runtime.NumGoroutine")&&fn.params.toList== [t,ft]&&fn.resultTypes.toList== []&&fn.nfree==0&& !Ao P t&&AW P t== [t]&&Cr P t==some el&&BQ P el&&P.cellsOf el==K&&fn.params.size==2
 |_,_=>false
theorem zye {f g t ft el k:Nat} {α:Type} [Inhabited α] {av:α→AV} (S:Array α→Array α) (hk:jF Tryz.prog B2 f t ft el k=true)
  (Dw: ∀x,∀y∈(av x).cells,y.scalar=true) (hlen: ∀x,(av x).cells.length=k) (tX: ∀d:Array α,(S d).toList.Perm d.toList)
  (hS: ∀(blk cap:Nat) (d:Array α) (w:World),HoldsK (DE av) k w blk 0 d→blk<w.heap.size→d.size<4611686018427387904→
   Calls Tryz.prog f #[.slice (some ⟨blk,0,none⟩) d.size cap, .func (.func g) #[] #[]] w fun e w'=>e= .returned (.tuple #[])∧ ∃n os,w'=sortWorldK (DE av) k w blk 0 n (S d) os)
  (h0: ∀p cap fv w,Calls Tryz.prog f #[.slice p 0 cap,fv] w fun e w'=>e= .returned (.tuple #[])∧w'=w)
  (xs:List α) (hb:xs.length<4611686018427387904):B6 Tryz.prog B2 f [.sl (xs.map av), .fn g []] (.tup [.tup [], .sl ((S xs.toArray).toList.map av)]):=by
 unfold jF at hk;split at hk
 ·rename_i fn s hf hs;simp only [Ad,Bool.not_eq_true',beq_iff_eq]at hk;obtain⟨⟨⟨⟨⟨⟨⟨⟨⟨⟨⟨g1,g2⟩,g3⟩,g4⟩,g5⟩,g6⟩,g7⟩,g8⟩,g9⟩,g10⟩,g11⟩,g13⟩:=hk;obtain⟨hm,hr,CV,BP⟩:s.b8= [.mu [true], .ro]∧s.res= []∧s.ft= []∧s.lo= []:=by
   split at g1
   ·rename_i a b c d;exact⟨a,b,c,d⟩
   ·cases g1
  have Bz: ∀x,(DE av x).length=k:=fun x=>by simp [DE,hlen]
  have hp:=tX xs.toArray;have GR:(S xs.toArray).toList.length=xs.length:=by simpa using hp.length_eq
  unfold B6;rw [if_pos (Nx f s hs)];refine⟨s,hs,fn,hf,g2,g3, ?_,by simp [g6,g13],by simp [CV],fun w vs rf lf A4 As hd _ BW Dv=> ?_⟩
  ·unfold KB Tg;rw [g4,g5,CV,List.append_nil,hm];simp [Bi,SO,Hg]
  rw [g4,CV,List.append_nil,hm,BP]at As;cases As with
  |lent h _ _ _=>cases h
  | @cons _ _ _ _ v1 vs1 _ _ f1 k1 rf1 lf1 Bu a1 As=>
   cases As with
   |lent h _ _ _=>cases h
   | @cons _ _ _ _ v2 vs2 _ _ f2 k2 rf2 lf2 AU a2 As=>
    cases As;obtain⟨rfl,r1⟩:=cU g7 g8 g9 g10 a1;obtain⟨a2,rfl⟩:Rd w [v2] [AV.fn g []] f2∧k2= []:=a2;obtain⟨rfl,rfl⟩:v2= .func (.func g) #[] #[]∧f2= []:=by
     cases a2 with
     |fn b1 b2=>cases b1;cases b2;exact⟨rfl,rfl⟩
    obtain⟨xs',cs,e1,p0,p1,p2,p3,p4,p5⟩:=r1.l0;cases e1;rw [g11]at p0 p1 p2 p5;have D9:(xs.map av).length=xs.length:=by simp
    rcases p5 with⟨Ey,rfl,q,rfl⟩|⟨b,cap,C,rfl,⟨z1,z2,z3,z4,z5⟩,rfl⟩
    ·have Ck:xs= []:=by simpa using Ey
     subst Ck;have tW:(S #[]).toList= []:=by simpa using GR
     refine(h0 q 0 _ w).mono ?_;rintro e w' ⟨rfl,rfl⟩;refine⟨_,rfl,⟨⟨.tup [], [.sl []], [], [], [], [],by simp [tW], ?_, ?_,by simp,by simp,by simp⟩,Mod.refl _ _⟩⟩
     ·rw [g5];exact⟨[], [],rfl,rfl, .nil⟩
     ·rw [g4,CV,List.append_nil,hm];have Fx:EF Tryz.prog w' (AW Tryz.prog t) [true] [.slice q 0 0] [.sl []] [] []:=by
       rw [g8];have:=EF.own (P:=Tryz.prog) (w:=w') (t:=t) (ts:= []) (fl:= [true]) (us:= []) (ys:= []) rfl g9 (.inl ⟨g10,rfl⟩) (y:= .sl []) (u:= .slice q 0 0) (top:= []) (by rw [g11];exact⟨[],rfl,by simp,p0, .inl ⟨rfl,⟨q,rfl⟩,rfl,rfl⟩⟩) .nil;simpa using this
      have:=C8.mu (P:=Tryz.prog) (w:=w') (t:=t) (ts:= [ft]) (ms:= [.mu [true], .ro]) (own:= [true]) (v:= .slice q 0 0) (vs:= [.func (.func g) #[] #[]]) (us:= [.slice q 0 0]) (ys:= [.sl []]) (y:= .sl []) (bs:= []) (f:= []) (o1:= []) (o:= []) rfl (by rw [g7];simp) Fx (.ro rfl .nil);simpa using this
    ·obtain⟨q1,q2⟩:=pG Dw p3;have Mk:=El z3;have BR: ∀o,w.cell? ⟨b,o,none⟩=C[o]?:=dC z3;have Xu:(flatK (DE av) k xs.toArray).toList=xs.flatMap (DE av):=by rw [nK Bz]
     have hmul:=Nat.mul_le_mul_right k z1;rw [D9]at z1 z5 hmul;have hH:HoldsK (DE av) k w b 0 xs.toArray:=by
      intro j hj;rw [size_flatK]at hj;have Iu:j<xs.length*k:=by simpa using hj
      refine⟨?_,lH z3⟩;rw [BR,Nat.zero_add];have e1:C[j]?=cs[j]?:=by rw [z5,List.getElem?_take,if_pos Iu];simp
      rw [e1,q1,←Xu,Array.getElem?_toList,Array.getElem?_eq_getElem (by simpa using hj),←getElem!_pos (flatK (DE av) k xs.toArray) j (by simpa using hj)];rfl
     have hc:=hS b cap xs.toArray w hH Mk (by simpa using hb);rw [show xs.toArray.size=(xs.map av).length by simp]at hc;refine hc.mono ?_;rintro e w' ⟨rfl,n,os,rfl⟩;have Cs:Mod [b] w (sortWorldK (DE av) k w b 0 n (S xs.toArray) os):=zvn;have Io:=ztJ (enc:=DE av) (k:=k) (m:=n) (d:=S xs.toArray) (os:=os) z3;generalize sortWorldK (DE av) k w b 0 n (S xs.toArray) os=w' at Cs Io;have BJ:(S xs.toArray).size=xs.length:=by simpa using GR
     have gA:(flatK (DE av) k (S xs.toArray)).size=xs.length*k:=by rw [size_flatK,BJ]
     have BT:(Go.Sort.putCells id 0 (flatK (DE av) k (S xs.toArray)) C).toList.take (xs.length*k)=(S xs.toArray).toList.flatMap (DE av):=by rw [←gA,zrn _ _ (by rw [gA,z4];exact hmul),nK Bz]
     have E2: ∀x∈(S xs.toArray).toList,x∈xs:=fun x hx=>by simpa using hp.mem_iff.1 hx
     have CS:Rd w' ((S xs.toArray).toList.flatMap (DE av)) (AE ((S xs.toArray).toList.map av)) []:=(rV fun x hx=>q2 x (E2 x hx)).frame (by simp);have Bh:Cw w' el k (.slice (some ⟨b,0,none⟩) (xs.map av).length cap) (.sl ((S xs.toArray).toList.map av)) [b] []:=by
      refine⟨_,rfl,fun y hy=> ?_,p0, .inr ⟨b,cap,_,by simp [GR],by simpa [GR]using z1,z2,Io,by simp [Go.Sort.putCells,z4],rfl, ?_, ?_⟩⟩
      ·obtain⟨x,_,rfl⟩:=List.mem_map.1 hy;exact hlen x
      ·rw [List.length_map,GR,BT];intro u hu;obtain⟨x,hx,hu⟩:=List.mem_flatMap.1 hu;exact p4 u (by rw [q1];exact List.mem_flatMap.2 ⟨x,E2 x hx,hu⟩)
      ·rw [List.length_map,GR,BT];exact CS
     refine⟨_,rfl,⟨⟨.tup [], [.sl ((S xs.toArray).toList.map av)], [], [], [], [b],rfl, ?_, ?_,by simp, ?_,by simp⟩,Cs.weaken fun j hj=> .inl (by simpa using hj)⟩⟩
     ·rw [g5];exact⟨[], [],rfl,rfl, .nil⟩
     ·rw [g4,CV,List.append_nil,hm];have Fx:EF Tryz.prog w' (AW Tryz.prog t) [true] [.slice (some ⟨b,0,none⟩) (xs.map av).length cap] [.sl ((S xs.toArray).toList.map av)] [] [b]:=by
       rw [g8];have:=EF.own (P:=Tryz.prog) (w:=w') (t:=t) (ts:= []) (fl:= [true]) (us:= []) (ys:= []) rfl g9 (.inl ⟨g10,rfl⟩) (by rw [g11];exact Bh) .nil;simpa using this
      have:=C8.mu (P:=Tryz.prog) (w:=w') (t:=t) (ts:= [ft]) (ms:= [.mu [true], .ro]) (own:= [true]) (v:= .slice (some ⟨b,0,none⟩) (xs.map av).length cap) (vs:= [.func (.func g) #[] #[]]) (us:= [.slice (some ⟨b,0,none⟩) (xs.map av).length cap]) (ys:= [.sl ((S xs.toArray).toList.map av)]) (y:= .sl ((S xs.toArray).toList.map av)) (bs:= []) (f:= []) (o:= []) rfl (by rw [g7];simp) Fx (.ro rfl .nil);simpa using this
     ·intro j hj;simp only [List.nil_append,List.mem_singleton]at hj;subst hj;exact⟨.inl (by simp),El Io⟩
 ·cases hk
end Go.Proofs.YtollgpkegmbpmaaGreatDoor
end
section
namespace Go.Proofs.YtollgpkegmbpmaaGreatDoor
open Go Go.Proofs Go.Shelf Go.Sort
set_option maxRecDepth 100000
set_option maxHeartbeats 1000000
theorem YL (s:ByteArray) (W:World):Calls Tryz.prog 206 #[.string s] W fun e w'=>e= .returned (.bool false)∧w'=W:=by
 go_enter Tryz.func206,Tryz.ntmps206
 go_wp2
 go_ret
 exact⟨rfl,rfl⟩
def HH (a b:ByteArray):Int:=if Op.bytesLess a.toList b.toList then-1 else if a.toList==b.toList then 0 else 1
theorem zT (a b:ByteArray) (W:World):(binOp .gtr 9 (.string a) (.string b)).run Tryz.prog W= .ok (.bool (!(Op.bytesLess a.toList b.toList||a.toList==b.toList))) W:=by kernel_rfl
theorem zyV (a b:ByteArray) (W:World):Calls Tryz.prog 115 #[.string a, .string b] W fun e w'=>e= .returned (.int .i64 (HH a b))∧w'=W:=by
 have hg:=zT a b;unfold HH;by_cases h1:Op.bytesLess a.toList b.toList=true
 ·rw [if_pos h1]
  go_enter Tryz.func115,Tryz.ntmps115
  go_wp2_with (go_at_call 206;refine(YL _ _).mono ?_;rintro e w' ⟨rfl,rfl⟩)
  go_ret
  exact⟨rfl,rfl⟩
 ·have Ti:Op.bytesLess a.toList b.toList=false:=by simpa using h1
  rw [if_neg h1];clear h1;by_cases h2:(a.toList==b.toList)=true
  ·rw [if_pos h2]
   go_enter Tryz.func115,Tryz.ntmps115
   go_wp2_with (go_at_call 206;refine(YL _ _).mono ?_;rintro e w' ⟨rfl,rfl⟩)
   go_ret
   exact⟨rfl,rfl⟩
  ·have WL:(a.toList==b.toList)=false:=by simpa using h2
   rw [if_neg h2];clear h2
   go_enter Tryz.func115,Tryz.ntmps115
   go_wp2_with (go_at_call 206;refine(YL _ _).mono ?_;rintro e w' ⟨rfl,rfl⟩)
   go_ret
   exact⟨rfl,rfl⟩
def Rg (x y:Int):Int:=if x≠0 then x else y
theorem yM (x y:Int) (b:Nat) (W:World) (h0:W.cell? ⟨b,0,none⟩=some (.int .i64 x)) (h1:W.cell? ⟨b,1,none⟩=some (.int .i64 y)):
  Calls Tryz.prog 114 #[.slice (some ⟨b,0,none⟩) 2 2] W fun e w'=>e= .returned (.int .i64 (Rg x y))∧w'=W:=by
 unfold Rg;by_cases hx:x=0
 ·subst hx;by_cases hy:y=0
  ·subst hy
   go_enter Tryz.func114,Tryz.ntmps114
   go_wp2
   refine wp_loop_rounds 3 ?_;rw [rounds_succ]
   go_wp2
   rw [rounds_succ]
   go_wp2
   rw [rounds_succ]
   go_wp2
   go_ret
   exact⟨rfl,rfl⟩
  ·go_enter Tryz.func114,Tryz.ntmps114
   go_wp2
   refine wp_loop_rounds 2 ?_;rw [rounds_succ]
   go_wp2
   rw [rounds_succ]
   go_wp2
   go_ret
   exact⟨rfl,rfl⟩
 ·rw [if_pos hx]
  go_enter Tryz.func114,Tryz.ntmps114
  go_wp2
  refine wp_loop_rounds 1 ?_;rw [rounds_succ]
  go_wp2
  go_ret
  exact⟨rfl,rfl⟩
theorem x5 (v1 p1 v2 p2:ByteArray) (W:World):
  Calls Tryz.prog 199 #[.agg #[.string v1, .string p1], .agg #[.string v2, .string p2]] W fun e w'=>
   e= .returned (.int .i64 (Rg (HH v1 v2) (HH p1 p2)))∧ ∃q os',w'=grow (W.drewN q) os':=by
 have Bd:=zyV;have vT:=yM
 go_enter Tryz.func199,Tryz.ntmps199
 go_wp2_with fail
 have c0: ∀A B:Obj,((W.alloc A).alloc B).drew.heap[W.heap.size]?=some A:=fun A B=>by show((W.heap.push A).push B)[W.heap.size]?=some A;simp [Array.getElem?_push]
 have c1: ∀A B:Obj,((W.alloc A).alloc B).drew.heap[W.heap.size+1]?=some B:=fun A B=>by
  show((W.heap.push A).push B)[W.heap.size+1]?=some B;have h:W.heap.size+1=(W.heap.push A).size:=by simp
  rw [h,Array.getElem?_push_size]
 have hd: ∀A B:Obj,∃q os,((W.alloc A).alloc B).drew=grow (W.drewN q) os:=fun A B=>⟨1, #[A,B],by rw [alloc_eq_grow,alloc_eq_grow,grow_grow];rfl⟩
 refine wp_region_still_tail 10 (by kernel_rfl) (by kernel_rfl) ?_;simp only [List.take_succ_cons,List.take_zero,List.drop_succ_cons,List.drop_zero];change wpStill _ _ (World.drew _) (fun a'=>wpList _ _ _ _ a' (World.drew _)) _ _;have b0:=dC (c0 (.cells #[.string v1, .string p1] 209) (.cells #[.string v2, .string p2] 209));have b1:=dC (c1 (.cells #[.string v1, .string p1] 209) (.cells #[.string v2, .string p2] 209));have hq:=hd (.cells #[.string v1, .string p1] 209) (.cells #[.string v2, .string p2] 209);clear c0 c1 hd;generalize ((W.alloc (.cells #[.string v1, .string p1] 209)).alloc (.cells #[.string v2, .string p2] 209)).drew=W2 at*;obtain⟨q,os,hq⟩:=hq;have HQ:=Lib.hid hq;clear hq
 repeat still_step
 still_call (Bd _ _ _)
 repeat still_step
 still_call (Bd _ _ _)
 refine wpStill_nil ?_;change wpList _ _ _ _ _ W2
 go_wp2_with (go_at_call 114;refine(vT (HH v1 v2) (HH p1 p2) _ _ (by simp) (by simp)).mono ?_;rintro e w' ⟨rfl,rfl⟩)
 have H:=HQ.out
 go_ret
 exact⟨rfl,q,_,by rw [H,alloc_eq_grow,grow_grow]⟩
end Go.Proofs.YtollgpkegmbpmaaGreatDoor
end
section
namespace Go.Proofs
open Go.Shelf
def Tryz.fb:Go.Shelf.Ren:=⟨fun|6=>198|15=>185|14=>249|28=>242|29=>243|20=>280|21=>281|22=>282|23=>283|24=>284|25=>285|26=>286|27=>287|46=>309|47=>274|48=>275|49=>310|50=>311|57=>330|n=>n,fun|22=>204|24=>209|25=>211|3=>3|39=>198|0=>0|53=>241|55=>107|4=>4|46=>235|45=>234|50=>193|5=>5|9=>9|66=>267|70=>271|76=>288|77=>289|n=>n,fun|n=>n⟩
theorem Tryz.sortEntries:Go.Proofs.SlLaysF0.n6 Tryz.prog Tryz.fb:={
 mixed:=by kernel_rfl
 f6:=⟨Tryz.f198.name,by decide,Tryz.func198.trans (congrArg some (by kernel_rfl))⟩
 f14:=⟨Tryz.f249.name,by decide,Tryz.func249.trans (congrArg some (by kernel_rfl))⟩
 f15:=Tryz.func185.trans (congrArg some (by kernel_rfl))
 f20:=⟨Tryz.f280.name,by decide,Tryz.func280.trans (congrArg some (by kernel_rfl))⟩
 f21:=⟨Tryz.f281.name,by decide,Tryz.func281.trans (congrArg some (by kernel_rfl))⟩
 f22:=⟨Tryz.f282.name,by decide,Tryz.func282.trans (congrArg some (by kernel_rfl))⟩
 f23:=⟨Tryz.f283.name,by decide,Tryz.func283.trans (congrArg some (by kernel_rfl))⟩
 f24:=⟨Tryz.f284.name,by decide,Tryz.func284.trans (congrArg some (by kernel_rfl))⟩
 f25:=⟨Tryz.f285.name,by decide,Tryz.func285.trans (congrArg some (by kernel_rfl))⟩
 f26:=⟨Tryz.f286.name,by decide,Tryz.func286.trans (congrArg some (by kernel_rfl))⟩
 f27:=⟨Tryz.f287.name,by decide,Tryz.func287.trans (congrArg some (by kernel_rfl))⟩
 f28:=Tryz.func242.trans (congrArg some (by kernel_rfl))
 f29:=Tryz.func243.trans (congrArg some (by kernel_rfl))
 f46:=⟨Tryz.f309.name,by decide,Tryz.func309.trans (congrArg some (by kernel_rfl))⟩
 f47:=Tryz.func274.trans (congrArg some (by kernel_rfl))
 f48:=Tryz.func275.trans (congrArg some (by kernel_rfl))
 f49:=⟨Tryz.f310.name,by decide,Tryz.func310.trans (congrArg some (by kernel_rfl))⟩
 f50:=⟨Tryz.f311.name,by decide,Tryz.func311.trans (congrArg some (by kernel_rfl))⟩
 f57:=⟨Tryz.f330.name,by decide,Tryz.func330.trans (congrArg some (by kernel_rfl))⟩
 t0:=Tryz.underlying0
 a0:=Tryz.isAgg0
 z0:=Tryz.sizeOf0
 v0:=Tryz.zeroValue0
 t3:=Tryz.underlying3
 a3:=Tryz.isAgg3
 z3:=Tryz.sizeOf3
 v3:=Tryz.zeroValue3
 t4:=Tryz.underlying4
 a4:=Tryz.isAgg4
 z4:=Tryz.sizeOf4
 v4:=Tryz.zeroValue4
 t5:=Tryz.underlying5
 a5:=Tryz.isAgg5
 z5:=Tryz.sizeOf5
 v5:=Tryz.zeroValue5
 t9:=Tryz.underlying9
 a9:=Tryz.isAgg9
 z9:=Tryz.sizeOf9
 v9:=Tryz.zeroValue9
 t22:=Tryz.underlying204
 a22:=Tryz.isAgg204
 z22:=Tryz.sizeOf204
 v22:=Tryz.zeroValue204
 t25:=Tryz.underlying211
 a25:=Tryz.isAgg211
 z25:=Tryz.sizeOf211
 v25:=Tryz.zeroValue211
 t39:=Tryz.underlying198
 a39:=Tryz.isAgg198
 z39:=Tryz.sizeOf198
 v39:=Tryz.zeroValue198
 t45:=Tryz.underlying234
 a45:=Tryz.isAgg234
 z45:=Tryz.sizeOf234
 v45:=Tryz.zeroValue234
 t46:=Tryz.underlying235
 a46:=Tryz.isAgg235
 z46:=Tryz.sizeOf235
 v46:=Tryz.zeroValue235
 t50:=Tryz.underlying193
 a50:=Tryz.isAgg193
 z50:=Tryz.sizeOf193
 v50:=Tryz.zeroValue193
 t53:=Tryz.underlying241
 a53:=Tryz.isAgg241
 z53:=Tryz.sizeOf241
 v53:=Tryz.zeroValue241
 t55:=Tryz.underlying107
 a55:=Tryz.isAgg107
 z55:=Tryz.sizeOf107
 v55:=Tryz.zeroValue107
 t66:=Tryz.underlying267
 a66:=Tryz.isAgg267
 z66:=Tryz.sizeOf267
 v66:=Tryz.zeroValue267
 t70:=Tryz.underlying271
 a70:=Tryz.isAgg271
 z70:=Tryz.sizeOf271
 v70:=Tryz.zeroValue271
 t76:=Tryz.underlying288
 a76:=Tryz.isAgg288
 z76:=Tryz.sizeOf288
 v76:=Tryz.zeroValue288
 t77:=Tryz.underlying289
 a77:=Tryz.isAgg289
 z77:=Tryz.sizeOf289
 v77:=Tryz.zeroValue289}
end Go.Proofs
end
section
namespace Go.Proofs.YtollgpkegmbpmaaGreatDoor
open Go.RowKit
theorem Bb {α:Type} {xs:List α} {i:Nat} (h:i<xs.length):getI xs (i:Int)=some xs[i]:=by simp [getI,h]
theorem LM {α:Type} {xs:List α} {i:Int} (h0:0≤i) (h:i<xs.length): ∃x,getI xs i=some x∧x∈xs∧xs[i.toNat]?=some x:=by
 have hi:i.toNat<xs.length:=by omega
 exact⟨xs[i.toNat],by simp [getI,h0,hi],List.getElem_mem hi,by simp [hi]⟩
theorem BM {q n:Nat} (h:q<n) (hn:n≤9223372036854775807):IntKind.i64.wrap ((q:Int)+1)=((q+1:Nat):Int):=by rw [B3 (by omega) (by omega)];simp
theorem AG {α:Type} {p:Prop} {k:Option α} (h:p):req p k=k:=by simp [req,h]
def GM {α σ β:Type} (step:α→σ→Option (σ ⊕ Option β)) (fin:σ→Option β):List α→σ→Option β
 | [],s=>fin s
 |x::xs,s=>match step x s with
  |none=>none
  |some (.inl s')=>GM step fin xs s'
  |some (.inr o)=>o
def NJ {σ τ β:Type} (f:σ→τ):Option (σ ⊕ Option β)→Option (τ ⊕ Option β)
 |none=>none
 |some (.inl s)=>some (.inl (f s))
 |some (.inr o)=>some (.inr o)
theorem zwH {α σ τ β:Type} {xs:List α} {body:τ→Option (τ ⊕ Option β)} (emb:Int→σ→τ) (step:α→σ→Option (σ ⊕ Option β)) (fin:σ→Option β) (q0:Nat)
  (hs: ∀(i:Nat) (hi:i<xs.length) (s:σ),q0≤i→body (emb i s)=NJ (emb ((i+1:Nat):Int)) (step xs[i] s)) (he: ∀s,body (emb xs.length s)=some (.inr (fin s))) (s:σ) (h0:q0≤xs.length):AN body (emb q0 s)=GM step fin (xs.drop q0) s:=by
 have key: ∀(n q:Nat) (s:σ),q0≤q→q+n=xs.length→AN body (emb q s)=GM step fin (xs.drop q) s:=by
  intro n
  induction n with
  |zero=>
   intro q s _ hq;have:q=xs.length:=by omega
   subst this;rw [G4,he s];simp [GM]
  |succ n ih=>
   intro q s h0 hq;have Ax:q<xs.length:=by omega
   rw [G4,hs q Ax s h0,List.drop_eq_getElem_cons Ax];rcases ID:step xs[q] s with _|s'|o
   ·simp [GM,ID,NJ]
   ·simp only [GM,ID,NJ];exact ih (q+1) s' (by omega) (by omega)
   ·simp [GM,ID,NJ]
 exact key (xs.length-q0) q0 s (Nat.le_refl _) (by omega)
theorem oP {α σ τ β:Type} {xs:List α} {body:τ→Option (τ ⊕ Option β)} (emb:Int→σ→τ) (step:α→σ→Option (σ ⊕ Option β)) (fin:σ→Option β)
  (hs: ∀(i:Nat) (hi:i<xs.length) (s:σ),body (emb i s)=NJ (emb ((i+1:Nat):Int)) (step xs[i] s)) (he: ∀s,body (emb xs.length s)=some (.inr (fin s))) (s:σ):AN body (emb 0 s)=GM step fin xs s:=by
 have:=zwH emb step fin 0 (fun i hi s _=>hs i hi s) he s (by omega);simpa using this
theorem zzz {α σ β:Type} {step:α→σ→Option (σ ⊕ Option β)} {fin:σ→Option β} {xs:List α} (p:α→Bool) (b:β) (h: ∀x∈xs,∀s,step x s=some (if p x=true then .inl s else .inr (some b))) (s:σ):GM step fin xs s=if xs.all p=true then fin s else some b:=by
 induction xs with
 |nil=>simp [GM]
 |cons x xs ih=>
  simp only [GM,h x (by simp) s];cases hp:p x with
  |true=>simp [hp,ih fun y hy=>h y (by simp [hy])]
  |false=>simp [hp]
theorem zxZ {α σ β:Type} {step:α→σ→Option (σ ⊕ Option β)} {fin:σ→Option β} {xs:List α} (f:σ→α→σ) (I:σ→Prop) (hI: ∀x∈xs,∀s,I s→I (f s x)) (h: ∀x∈xs,∀s,I s→step x s=some (.inl (f s x))) {s:σ} (hs:I s):GM step fin xs s=fin (xs.foldl f s):=by
 induction xs generalizing s with
 |nil=>simp [GM]
 |cons x xs ih=>simp only [GM,h x (by simp) s hs,List.foldl_cons];exact ih (fun y hy=>hI y (by simp [hy])) (fun y hy=>h y (by simp [hy])) (hI x (by simp) s hs)
theorem En {α σ τ β:Type} {xs:List α} {body:τ→Option (τ ⊕ Option β)} (emb:Int→σ→τ) (f:σ→α→σ) (fin:σ→Option β) (I:Nat→σ→Prop)
  (hs: ∀(i:Nat) (hi:i<xs.length) (s:σ),I i s→body (emb i s)=some (.inl (emb ((i+1:Nat):Int) (f s xs[i])))∧I (i+1) (f s xs[i])) (he: ∀s,I xs.length s→body (emb xs.length s)=some (.inr (fin s))) {s:σ} (h0:I 0 s):AN body (emb 0 s)=fin (xs.foldl f s)∧I xs.length (xs.foldl f s):=by
 have key: ∀(n q:Nat) (s:σ),q+n=xs.length→I q s→AN body (emb q s)=fin ((xs.drop q).foldl f s)∧I xs.length ((xs.drop q).foldl f s):=by
  intro n
  induction n with
  |zero=>
   intro q s hq hI;have:q=xs.length:=by omega
   subst this;rw [G4,he s hI];simp [hI]
  |succ n ih=>
   intro q s hq hI;have Ax:q<xs.length:=by omega
   obtain⟨h1,h2⟩:=hs q Ax s hI;rw [G4,h1,List.drop_eq_getElem_cons Ax,List.foldl_cons];exact ih (q+1) _ (by omega) h2
 have:=key xs.length 0 s (by omega) h0;simpa using this
theorem eF {α:Type} {xs:List α} {p:α→Option Bool} (q:α→Bool) (hp: ∀x∈xs,p x=some (q x)) (hn:xs.length≤9223372036854775806):IQ xs p=some (xs.any q):=by
 have key: ∀(l:List α) (i:Int),0≤i→(∀x∈l,p x=some (q x))→ ∃r,Et p l i=some r∧decide (r≥0)=l.any q:=by
  intro l
  induction l with
  |nil=>intro i _ _;exact⟨-1,rfl,by simp⟩
  |cons x l ih=>
   intro i hi h;simp only [Et,h x (by simp),Ab];cases hq:q x with
   |true=>exact⟨i,by simp,by simp [hq,hi]⟩
   |false=>obtain⟨r,h1,h2⟩:=ih (i+1) (by omega) fun y hy=>h y (by simp [hy]);exact⟨r,by simp [h1],by simp [hq,h2]⟩
 obtain⟨r,h1,h2⟩:=key xs 0 (by omega) hp;simp [IQ,FH,AG hn,h1,h2]
theorem qR {α:Type} {b:Nat} {xs:List α} (h:(xs.length:Int)*b≤140737488355328) (h2:(xs.length:Int)≤140737488355328):eT b xs=some xs:=AG ⟨h,h2⟩
theorem LD {β:Type} {n:Nat} {body:Int→Option (Int ⊕ Option β)} (p:Nat→Bool) (b:β) (fin:Option β)
  (hs: ∀i:Nat,i<n→body i=some (if p i=true then .inl ((i+1:Nat):Int)else .inr (some b))) (he:body n=some (.inr fin)):AN body 0=if(List.range n).all p=true then fin else some b:=by
 have h1:=oP (xs:=List.range n) (body:=body) (fun i (_:Unit)=>i) (fun i _=>some (if p i=true then .inl ()else .inr (some b))) (fun _=>fin)
  (fun i hi s=>by rw [List.length_range]at hi;rw [hs i hi,List.getElem_range];cases p i<;>simp [NJ]) (fun s=>by simpa using he) ()
 rw [zzz p b fun x _ s=>rfl]at h1;exact h1
def Cd {α:Type} (p:α→Bool) (l:List α):Int:=match l.findIdx? p with|some i=>(i:Int)|none=> -1
theorem Wc {α:Type} (p:α→Bool):Cd p []= -1:=rfl
theorem Sc {α:Type} (p:α→Bool) (x:α) (l:List α):Cd p (x::l)=if p x=true then 0 else if Cd p l= -1 then-1 else Cd p l+1:=by
 unfold Cd;rw [List.findIdx?_cons];cases p x with
 |true=>simp
 |false=>
  cases h:l.findIdx? p with
  |none=>simp
  |some i=>simp<;>omega
theorem Sw {α:Type} (p:α→Bool) (l:List α): -1≤Cd p l:=by unfold Cd;split<;>omega
theorem dP {α:Type} (p:α→Bool) (l:List α):decide (Cd p l≥0)=l.any p:=by
 induction l with
 |nil=>simp [Wc]
 |cons x l ih=>
  have h1:=Sw p l;rw [Sc,List.any_cons,←ih];cases p x with
  |true=>simp
  |false=>
   by_cases h:Cd p l= -1
   ·simp [h]
   ·have:Cd p l≥0:=by omega
    simp [h,this];try omega
theorem dL {α:Type} {p:α→Bool} {l:List α} (h:Cd p l≥0): ∃x,getI l (Cd p l)=some x∧p x=true∧x∈l:=by
 induction l with
 |nil=>simp [Wc]at h
 |cons y l ih=>
  rw [Sc]at h ⊢;cases hy:p y with
  |true=>exact⟨y,by simp [getI],hy,by simp⟩
  |false=>
   have h1:=Sw p l;by_cases hm:Cd p l= -1
   ·rw [hy,hm]at h;simp at h
   ·have h0:Cd p l≥0:=by omega
    obtain⟨x,e1,e2,e3⟩:=ih h0;obtain⟨_,e4,e5⟩:=YN e1;refine⟨x, ?_,e2,by simp [e3]⟩;simp only [BH,if_false,hm];unfold getI;rw [if_pos (by omega),show(Cd p l+1).toNat=(Cd p l).toNat+1 by omega];simpa using e5
theorem dB {α:Type} {xs:List α} {body:Int→Option (Int ⊕ Option Int)} (p:α→Bool) (hs: ∀(i:Nat) (hi:i<xs.length),body i=some (if p xs[i]=true then .inr (some (i:Int))else .inl ((i+1:Nat):Int))) (he:body xs.length=some (.inr (some (-1)))):AN body 0=some (Cd p xs):=by
 have key: ∀(n q:Nat),q+n=xs.length→AN body q=some (if Cd p (xs.drop q)= -1 then-1 else q+Cd p (xs.drop q)):=by
  intro n
  induction n with
  |zero=>
   intro q hq;have:q=xs.length:=by omega
   subst this;rw [G4,he];simp [Wc]
  |succ n ih=>
   intro q hq;have Ax:q<xs.length:=by omega
   rw [G4,hs q Ax,List.drop_eq_getElem_cons Ax,Sc];cases p xs[q]with
   |true=>simp
   |false=>
    simp only [BH,if_false];rw [ih (q+1) (by omega)];have h1:=Sw p (xs.drop (q+1));congr 1;by_cases hm:Cd p (xs.drop (q+1))= -1
    ·simp [hm]
    ·have h2: ¬(Cd p (xs.drop (q+1))+1= -1):=by omega
     simp only [hm,if_false,h2];omega
 have h:=key xs.length 0 (by omega);rw [List.drop_zero]at h;rw [show((0:Nat):Int)=0 from rfl]at h;rw [h];have h1:=Sw p xs;by_cases hm:Cd p xs= -1
 ·simp [hm]
 ·simp [hm]
theorem lO {α:Type} {xs:List α} {p:α→Option Bool} (q:α→Bool) (hp: ∀x∈xs,p x=some (q x)) (hn:xs.length≤9223372036854775806):FH xs p=some (Cd q xs):=by
 have key: ∀(l:List α) (i:Int),(∀x∈l,p x=some (q x))→Et p l i=some (if Cd q l= -1 then-1 else i+Cd q l):=by
  intro l
  induction l with
  |nil=>intro i _;simp [Et,Wc]
  |cons x l ih=>
   intro i h;simp only [Et,h x (by simp),Ab,Sc];cases q x with
   |true=>simp
   |false=>
    simp only [BH,if_false];rw [ih (i+1) fun y hy=>h y (by simp [hy])];have h1:=Sw q l;congr 1;by_cases hm:Cd q l= -1
    ·simp [hm]
    ·have h2: ¬(Cd q l+1= -1):=by omega
     simp only [hm,if_false,h2];omega
 unfold FH;rw [AG hn,key xs 0 hp];by_cases hm:Cd q xs= -1
 ·simp [hm]
 ·simp [hm]
theorem zI {α:Type} {b:Bool} {A B:Option α} {y:Option α} (ha:b=true→A=y) (hb:b=false→B=y):(if b=true then A else B)=y:=by
 cases b with
 |true=>simpa using ha rfl
 |false=>simpa using hb rfl
theorem zzD {α β:Type} {o:Option α} {x:α} {f:α→Option β} (h:o=some x):o.bind f=f x:=by rw [h];rfl
abbrev bl (a b:List UInt8):Bool:=Op.bytesLess a b
theorem LG: ∀a:List UInt8,bl a a=false
 | []=>rfl
 |x::a=>by
  have h: ¬x<x:=fun h=>by have:=UInt8.lt_iff_toNat_lt.1 h;omega
  show Op.bytesLess (x::a) (x::a)=false;simp only [Op.bytesLess,h,decide_false,Bool.false_or,beq_self_eq_true,Bool.true_and];exact LG a
theorem eS (x y:UInt8) (a b:List UInt8):bl (x::a) (y::b)=true↔x.toNat<y.toNat∨x=y∧bl a b=true:=by show Op.bytesLess (x::a) (y::b)=true↔_;simp only [Op.bytesLess,Bool.or_eq_true,decide_eq_true_eq,Ad,beq_iff_eq,UInt8.lt_iff_toNat_lt]
theorem Hu: ∀{a b c:List UInt8},bl a b=true→bl b c=true→bl a c=true
 | [],_, [],_,h=>by rename_i b _;cases b<;>cases h
 | [],_,_::_,_,_=>rfl
 |_::_, [],_,h,_=>by cases h
 |_::_,_::_, [],_,h=>by cases h
 |x::a,y::b,z::c,h1,h2=>by
  rw [eS]at*;rcases h1 with h1|⟨rfl,h1⟩<;>rcases h2 with h2|⟨rfl,h2⟩
  ·exact .inl (by omega)
  ·exact .inl h1
  ·exact .inl h2
  ·exact .inr ⟨rfl,Hu h1 h2⟩
theorem Wx: ∀a b:List UInt8,bl a b=true∨a=b∨bl b a=true
 | [], []=> .inr (.inl rfl)
 | [],_::_=> .inl rfl
 |_::_, []=> .inr (.inr rfl)
 |x::a,y::b=>by
  rw [eS,eS];rcases Nat.lt_trichotomy x.toNat y.toNat with h|h|h
  ·exact .inl (.inl h)
  ·have h0:x=y:=UInt8.toNat_inj.1 h;subst h0;rcases Wx a b with h1|h1|h1
   ·exact .inl (.inr ⟨rfl,h1⟩)
   ·exact .inr (.inl (by rw [h1]))
   ·exact .inr (.inr (.inr ⟨rfl,h1⟩))
  ·exact .inr (.inr (.inl h))
theorem V8 {a b:List UInt8} (h:bl a b=true):bl b a=false:=by
 cases h2:bl b a with
 |false=>rfl
 |true=>have:=Hu h h2;rw [LG]at this;cases this
theorem GC {a b:List UInt8} (h:bl a b=true):a≠b:=by rintro rfl;rw [LG]at h;cases h
theorem R7 {a b:List UInt8} (h:bl a b=false) (hn:a≠b):bl b a=true:=by
 rcases Wx a b with h1|h1|h1
 ·rw [h]at h1;cases h1
 ·exact absurd h1 hn
 ·exact h1
section
variable {α:Type} (key:α→List UInt8)
def Es (l:List α):Prop:=l.Pairwise fun a b=>bl (key a) (key b)=true
def B5 (x:α):List α→List α
 | []=> [x]
 |y::l=>if bl (key x) (key y)=true then x::y::l else if key x=key y then x::l else y::B5 x l
variable {key}
theorem Es.ju {l:List α} (h:Es key l) {a b:α} (ha:a∈l) (hb:b∈l) (e:key a=key b):a=b:=by
 induction l with
 |nil=>cases ha
 |cons y l ih=>
  have h1:=List.pairwise_cons.1 h;rcases Ae.1 ha with q1|q1<;>rcases Ae.1 hb with q2|q2
  ·rw [q1,q2]
  ·exact absurd (q1▸e) (GC (h1.1 _ q2))
  ·exact absurd (q2▸e.symm) (GC (h1.1 _ q1))
  ·exact ih h1.2 q1 q2
theorem dR {x:α}: ∀{l:List α},Es key l→ ∀y,y∈B5 key x l↔y=x∨y∈l∧key y≠key x
 | [],_,y=>by simp [B5]
 |z::l,h,y=>by
  have h1:=List.pairwise_cons.1 h;unfold B5;split
  ·rename_i hb;constructor
   ·intro hy;rcases Ae.1 hy with rfl|hy
    ·exact .inl rfl
    ·refine .inr ⟨hy, ?_⟩;rcases Ae.1 hy with rfl|hy
     ·exact(GC hb).symm
     ·exact(GC (Hu hb (h1.1 _ hy))).symm
   ·rintro(rfl|⟨hy,_⟩)
    ·simp
    ·exact List.mem_cons_of_mem _ hy
  ·rename_i hb;split
   ·rename_i he;constructor
    ·intro hy;rcases Ae.1 hy with rfl|hy
     ·exact .inl rfl
     ·exact .inr ⟨List.mem_cons_of_mem _ hy,fun e=>GC (h1.1 _ hy) (by rw [e,he])⟩
    ·rintro(rfl|⟨hy,hn⟩)
     ·simp
     ·rcases Ae.1 hy with rfl|hy
      ·exact absurd he.symm hn
      ·exact List.mem_cons_of_mem _ hy
   ·rename_i he;rw [Ae,dR h1.2];constructor
    ·rintro(rfl|rfl|⟨hy,hn⟩)
     ·exact .inr ⟨by simp,fun e=>he e.symm⟩
     ·exact .inl rfl
     ·exact .inr ⟨List.mem_cons_of_mem _ hy,hn⟩
    ·rintro(rfl|⟨hy,hn⟩)
     ·exact .inr (.inl rfl)
     ·rcases Ae.1 hy with rfl|hy
      ·exact .inl rfl
      ·exact .inr (.inr ⟨hy,hn⟩)
theorem oC {x:α}: ∀{l:List α},Es key l→Es key (B5 key x l)
 | [],_=>by simp [B5,Es]
 |z::l,h=>by
  have h1:=List.pairwise_cons.1 h;unfold B5;split
  ·rename_i hb;refine List.pairwise_cons.2 ⟨fun y hy=> ?_,h⟩;rcases Ae.1 hy with rfl|hy
   ·exact hb
   ·exact Hu hb (h1.1 _ hy)
  ·rename_i hb;split
   ·rename_i he;exact List.pairwise_cons.2 ⟨fun y hy=>by rw [he];exact h1.1 _ hy,h1.2⟩
   ·rename_i he;refine List.pairwise_cons.2 ⟨fun y hy=> ?_,oC h1.2⟩;rcases(dR h1.2 y).1 hy with rfl|⟨hy,_⟩
    ·exact R7 (by simpa using hb) he
    ·exact h1.1 _ hy
theorem Es.ext: ∀{a b:List α},Es key a→Es key b→(∀x,x∈a↔x∈b)→a=b
 | [], [],_,_,_=>rfl
 | [],y::b,_,_,h=>absurd ((h y).2 (by simp)) (by simp)
 |x::a, [],_,_,h=>absurd ((h x).1 (by simp)) (by simp)
 |x::a,y::b,ha,hb,h=>by
  have h1:=List.pairwise_cons.1 ha;have h2:=List.pairwise_cons.1 hb;have e:x=y:=by
   rcases Ae.1 ((h x).1 (by simp))with e|hx
   ·exact e
   ·rcases Ae.1 ((h y).2 (by simp))with e|hy
    ·exact e.symm
    ·have:=Hu (h1.1 _ hy) (h2.1 _ hx);rw [LG]at this;cases this
  subst e;rw [Es.ext h1.2 h2.2 fun z=> ?_];constructor
  ·intro hz;rcases Ae.1 ((h z).1 (List.mem_cons_of_mem _ hz))with rfl|Re
   ·have:=h1.1 _ hz;rw [LG]at this;cases this
   ·exact Re
  ·intro hz;rcases Ae.1 ((h z).2 (List.mem_cons_of_mem _ hz))with rfl|Re
   ·have:=h2.1 _ hz;rw [LG]at this;cases this
   ·exact Re
theorem Es.filter {l:List α} (h:Es key l) (p:α→Bool):Es key (l.filter p):=List.Pairwise.filter p h
theorem Es.sub {a b:List α} (h:Es key b) (hs:a.Sublist b):Es key a:=List.Pairwise.sublist hs h
theorem qD {x:α}: ∀(l:List α),(B5 key x l).length≤l.length+1
 | []=>by simp [B5]
 |y::l=>by
  unfold B5;have:=qD (x:=x) l;split
  ·simp
  ·split
   ·simp
   ·simp only [Am];omega
end
end Go.Proofs.YtollgpkegmbpmaaGreatDoor
end
section
namespace Go.Proofs.YtollgpkegmbpmaaGreatDoor
open Go.RowKit Go.Sort Go.Shelf
set_option maxRecDepth 100000
def K0 (x y:Bk):Int:=Rg (HH ⟨x.bh.toArray⟩ ⟨y.bh.toArray⟩) (HH ⟨x.al.toArray⟩ ⟨y.al.toArray⟩)
def De (a b:Bk):Bool:=if a.bh≠b.bh then bl a.bh b.bh else bl a.al b.al
theorem rH (a b:List UInt8):(HH ⟨a.toArray⟩ ⟨b.toArray⟩<0)↔bl a b=true:=by
 unfold HH;rw [ByteArray.toList_eq,ByteArray.toList_eq];by_cases h1:bl a b=true
 ·rw [if_pos (by simpa using h1)];simp [h1]
 ·rw [if_neg (by simpa using h1)];split<;>simp [h1]
theorem rL (a b:List UInt8):HH ⟨a.toArray⟩ ⟨b.toArray⟩≠0↔a≠b:=by
 unfold HH;rw [ByteArray.toList_eq,ByteArray.toList_eq];by_cases h1:bl a b=true
 ·rw [if_pos (by simpa using h1)];exact⟨fun _=>GC h1,fun _=>by decide⟩
 ·rw [if_neg (by simpa using h1)];by_cases h2:a=b
  ·subst h2;simp
  ·rw [if_neg (by simpa using h2)];exact⟨fun _=>h2,fun _=>by decide⟩
theorem V6 (x y:Bk):ltOf K0 x y=De x y:=by
 unfold ltOf K0 De Rg;by_cases h1:x.bh=y.bh
 ·have e1: ¬HH ⟨x.bh.toArray⟩ ⟨y.bh.toArray⟩≠0:=by rw [rL];simpa using h1
  rw [if_neg e1,if_neg (show¬x.bh≠y.bh by simpa using h1)];have:=rH x.al y.al;cases hb:bl x.al y.al
  ·rw [decide_eq_false];rw [this,hb];simp
  ·rw [decide_eq_true];rw [this,hb]
 ·rw [if_pos ((rL _ _).2 h1),if_pos h1];have:=rH x.bh y.bh;cases hb:bl x.bh y.bh
  ·rw [decide_eq_false];rw [this,hb];simp
  ·rw [decide_eq_true];rw [this,hb]
theorem bR (x:Bk):De x x=false:=by simp [De,LG]
theorem Sd {a b c:Bk} (h1:De a b=true) (h2:De b c=true):De a c=true:=by
 unfold De at*;by_cases t1:a.bh=b.bh<;>by_cases t2:b.bh=c.bh
 ·rw [if_neg (by simpa using t1)]at h1;rw [if_neg (by simpa using t2)]at h2;rw [if_neg (by simpa using t1.trans t2)];exact Hu h1 h2
 ·rw [if_pos t2]at h2;rw [if_pos (by rw [t1];exact t2),t1];exact h2
 ·rw [if_pos t1]at h1;rw [if_pos (by rw [←t2];exact t1),←t2];exact h1
 ·rw [if_pos t1]at h1;rw [if_pos t2]at h2;have:=Hu h1 h2;rw [if_pos (GC this)];exact this
theorem Wm (a b:Bk):De a b=true∨De b a=true∨a=b:=by
 unfold De;by_cases t1:a.bh=b.bh
 ·rw [if_neg (show¬a.bh≠b.bh by simpa using t1),if_neg (show¬b.bh≠a.bh by simpa using t1.symm)];rcases Wx a.al b.al with h|h|h
  ·exact .inl h
  ·refine .inr (.inr ?_);obtain⟨x,y⟩:=a;obtain⟨u,v⟩:=b;dsimp only at t1 h;rw [t1,h]
  ·exact .inr (.inl h)
 ·rw [if_pos t1,if_pos (Ne.symm t1)];rcases Wx a.bh b.bh with h|h|h
  ·exact .inl h
  ·exact absurd h t1
  ·exact .inr (.inl h)
theorem jI:SWO (ltOf K0)where
 irrefl x:=by rw [V6];exact bR x
 trans x y z h1 h2:=by rw [V6]at*;exact Sd h1 h2
 ntrans x y z h1 h2:=by
  rw [V6]at*;rcases Wm x y with h|h|h
  ·rw [h]at h1;cases h1
  ·rcases Wm y z with k|k|k
   ·rw [k]at h2;cases h2
   ·have wW:=Sd k h;cases wQ:De x z
    ·rfl
    ·have:=Sd wW wQ;rw [bR]at this;cases this
   ·rw [←k];exact h1
  ·rw [h];exact h2
instance:Inhabited Bk:=⟨⟨[], []⟩⟩
def EX (d:Array Bk):Array Bk:=pdq (ltOf K0) d 0 d.size (Lib.bitLen d.size) true true
theorem nY (d:Array Bk):(EX d).toList.Perm d.toList∧(EX d).size=d.size∧SortedIn (ltOf K0) 0 d.size (EX d):=by
 obtain⟨⟨h1,_,h2⟩,h3⟩:=pdq_sorts (ltOf K0) jI d 0 d.size (Lib.bitLen d.size) true true (Nat.zero_le _) (Nat.le_refl _) (Or.inl rfl);have e:(EX d).extract 0 d.size=EX d:=by have:d.size=(EX d).size:=h1.symm;rw [this];simp
 refine⟨?_,h1,h3⟩;have WL:((EX d).extract 0 d.size).toList.Perm (d.extract 0 d.size).toList:=h2;rw [e]at WL;simpa using WL
theorem zvI (blk cap:Nat) (d:Array Bk) (w:World) (hH:HoldsK (DE KI) 2 w blk 0 d) (hblk:blk<w.heap.size) (BJ:d.size<4611686018427387904):
  Calls Tryz.prog 198 #[.slice (some ⟨blk,0,none⟩) d.size cap, .func (.func 199) #[] #[]] w fun e w'=>e= .returned (.tuple #[])∧ ∃n os,w'=sortWorldK (DE KI) 2 w blk 0 n (EX d) os:=by
 have eg: ∀args w,(callFunc 199 args).run Tryz.prog w= .ok (.enter 199 args) w:=enters_of Tryz.func199 (by kernel_rfl) rfl;have Xh:CmpLays Tryz.prog 199 #[] (DE KI) 2 K0 blk 0 d.size w:=fun m os dk hs x y=>x5 ⟨x.bh.toArray⟩ ⟨x.al.toArray⟩ ⟨y.bh.toArray⟩ ⟨y.al.toArray⟩ _;exact AnyQ.slices_SortFunc_eq Tryz.sortEntries 2 Tryz.isAgg209 Tryz.sizeOf209 (DE KI) (fun _=>rfl) (fun x v hv=>by simp only [DE,KI,AV.cells,List.map_cons,List.map_nil,AV.val,Ae,List.not_mem_nil,or_false]at hv;rcases hv with rfl|rfl<;>rfl) K0 jI 199 #[] blk 0 cap d w eg Xh hH hblk BJ
theorem zuT (p:Option Addr) (cap:Nat) (fv:Value) (w:World):Calls Tryz.prog 198 #[.slice p 0 cap,fv] w fun e w'=>e= .returned (.tuple #[])∧w'=w:=
 AnyF.slices_SortFunc_none Tryz.sortEntries p cap fv w
noncomputable def UX (g:Nat) (caps:List AV) (xs:List Bk):Option (Unit × List Bk):=req (g=199∧caps= []∧xs.length<4611686018427387904) (some ((),(EX xs.toArray).toList))
theorem zoS {g:Nat} {caps:List AV} {xs:List Bk} {r:Unit × List Bk} (h:UX g caps xs=some r):
  B6 Tryz.prog B2 198 [.sl (xs.map KI), .fn g caps] (.tup [.tup [], .sl (r.2.map KI)]):=by
 obtain⟨hc,hr⟩:=F7 h;obtain⟨rfl,rfl,hb⟩:=hc;cases hr;exact zye (ft:=(match Tryz.prog.funcs[198]? with|some fn=>fn.params.toList.getD 1 0|none=>0)) (t:=204) (el:=209) (k:=2) EX (by kernel_rfl) (fun x y hy=>by simp only [KI,AV.cells,Ae,List.not_mem_nil,or_false]at hy;rcases hy with rfl|rfl<;>rfl) (fun _=>rfl) (fun d=>(nY d).1) zvI zuT xs hb
end Go.Proofs.YtollgpkegmbpmaaGreatDoor
end

/- Parts of a proof, joined: DA, DB, MA, MB, OB, OG, QA, QO, MC, MD, QT, TF, HB, SP, HL, IA, IC, IB, RI. -/
import Derived.Test.YtbmbkgalkfmjdaaGreatDoorJ6
import Derived.Test.YtbmbkgalkfmjdaaGreatDoorProg
import Derived.Test.YtbmbkgalkfmjdaaGreatDoorChecked
import Derived.Shelf.Strings.Builder1
import Derived.Shelf.Strings.Builder2
import Derived.Shelf.Strings.OnBuilder
import Derived.Shelf.Small.Strs
import Derived.Shelf.Small.Wraps
import Derived.Shelf.Strings.BuilderF
import Derived.Shelf.Strings.BuilderK
import Derived.Shelf.Utf8.RuneCount
import Derived.Shelf.Strings.Builder2Cap
import Derived.Shelf.Strconv.Atoi
import Derived.Shelf.Strconv.Itoa0
import Derived.Shelf.Strconv.Itoa1
import Derived.Shelf.LaysM
import Derived.Shelf.Strconv.Itoa2
import Derived.Shelf.Strconv.Itoa3
import Derived.Shelf.Strconv.AtoiErrFast
import Derived.Shelf.Strconv.ParseIntEmpty
import Derived.Shelf.Strconv.AtoiFail
import Derived.Shelf.Strconv.Clone
import Derived.Shelf.Strconv.SyntaxError
import Derived.Shelf.LaysC
import Derived.Shelf.Strconv.ToError
import Derived.Shelf.Strconv.AtoiErr
import Derived.Shelf.Strconv.ErrVar
import Derived.Shelf.Strconv.Lower
import Derived.Shelf.Strconv.ParseUint10
import Derived.Shelf.Strconv.ParseUint10Empty
import Derived.Shelf.Strconv.ParseUint10Any
import Derived.Shelf.Strconv.ParseInt10
import Derived.Shelf.Strconv.AtoiLong
import Derived.Shelf.Strconv.AtoiInnerAll
import Derived.Shelf.Strconv.RangeError
import Derived.Shelf.Strconv.ToErrorRange
import Derived.Shelf.Strconv.AtoiAll
import Derived.Shelf.Strconv.ErrVarAll
import Derived.Shelf.Strconv.ParseUintEmpty
import Derived.Shelf.Strconv.ParseUint10b64
import Derived.Shelf.Strconv.ParseUint10b32
import Derived.Shelf.Strconv.ParseUint10b16
import Derived.Shelf.Strconv.ParseUint10b8
import Derived.Shelf.Strconv.ParseUint10At
import Derived.Shelf.Strconv.ParseInt10At64
import Derived.Shelf.Strconv.ParseInt10At32
import Derived.Shelf.Strconv.ParseInt10At16
import Derived.Shelf.Strconv.ParseInt10At8
import Derived.Shelf.Strconv.ParseInt10All
import Derived.Shelf.Strings.Search1
import Derived.Shelf.Strings.Search2
import Derived.Shelf.Strings.Search3
import Derived.Shelf.Strings.Cut
import Derived.Shelf.Strings.Count
import Derived.Shelf.Strings.Shaped
import Derived.Shelf.Strings.Prefix
import Derived.Shelf.Strings.Split
import Derived.Shelf.Strings.SplitShaped
import Derived.Shelf.Unicode.Decode
import Derived.Shelf.Strings.RuneCount
import Derived.Shelf.Strings.Explode
import Derived.Shelf.Unicode.DecodeSlow
import Derived.Shelf.Unicode.DecodeAny
import Derived.Shelf.Strings.BuilderCap
import Derived.Shelf.Slices.Turned
import Derived.Shelf.Slices.Equal
import Derived.Ground.Names2Prog
import Derived.Shelf.Slices.Clone
import Derived.Shelf.Slices.Empties2
import Derived.Ground.SlgnProg
import Derived.Shelf.SlicesE.Clone
import Derived.Laws.CopyRow
import Derived.Lib.AppendZerosOnto
import Derived.Lib.Overlaps
import Derived.Deep.RegionLaw
import Derived.StillTailTactics
import Derived.Deep.QuietTactic
import Derived.Sort.Grow
set_option linter.unusedVariables false
set_option linter.unusedSimpArgs false
section
namespace Go.Proofs.YtbmbkgalkfmjdaaGreatDoor
open Go.RowKit
noncomputable def sS (t:TypeId):List Bool:=(A9 Tryz.prog t).map fun u=>match CT Tryz.prog u with|some e=>Cg Tryz.prog e|none=>false
noncomputable def xM (u:TypeId):List Bool:=if u=105 then []else sS u
noncomputable def zHY (fn:Func):HV:={cx:=fn.params.toList.map fun t=>match KP Tryz.prog t with|some u=> .bx (xM u) (xM u)|none=> .ro,res:=fn.resultTypes.toList.flatMap sS}
noncomputable def zG5 (f:Nat):Option HV:=
 match f with
 |7=>some {cx:= [],res:= []}
 |9=>some {cx:= [],res:= []}
 |18=>some {cx:= [],res:= []}
 |25=>some {cx:= [.ro, .ro],res:= [false,true,true,true,false,false,false,false,false,false],dp:=true}
 |28=>some {cx:= [],res:= []}
 |29=>some {cx:= [.ro, .ro],res:= [false,true,true,true,false,false,false,false,true,false],dp:=true}
 |30=>some {cx:= [.ro, .ro],res:= []}
 |36=>some {cx:= [],res:= []}
 |37=>some {cx:= [.ro, .ro],res:= []}
 |47=>some {cx:= [.bx [] [], .ro, .ro],res:= []}
 |49=>some {cx:= [.bx [] []],res:= []}
 |73=>some {cx:= [],res:= []}
 |87=>some {cx:= [.ro, .ro],res:= [true],dp:=true}
 |89=>some {cx:= [.ro, .ro],res:= [false,true,true,true,false,false,false,false,false],dp:=true}
 |94=>some {cx:= [.bx [] [], .ro, .ro],res:= [true]}
 |96=>some {cx:= [.ro],res:= [false,true,true,true,false,false,false,false],dp:=true}
 |100=>some {cx:= [.ro, .ro],res:= []}
 |112=>some {cx:= [.bx [] [], .ro],res:= []}
 |124=>some {cx:= [.bx [] [], .ro, .ro],res:= []}
 |153=>some {cx:= [.ro, .ro, .bx [true] [true]],res:= [],ft:= [1000000129]}
 |157=>some {cx:= [.bx [] []],res:= [false,false,true,true],dp:=true}
 |170=>some {cx:= [.ro, .ro],res:= [false,true,true,true,false,false,false,false,false],dp:=true}
 |178=>some {cx:= [.ro, .ro],res:= [false,true,true,true,false],dp:=true}
 |179=>some {cx:= [.bx [] []],res:= [false,true,true,true],dp:=true,fz:=true}
 |183=>some {cx:= [.ro],res:= [false,true,true,true],dp:=true}
 |185=>some {cx:= [.ro],res:= [false,true,true,true],dp:=true}
 |190=>some {cx:= [.ro, .ro],res:= []}
 |205=>some {cx:= [.bx [] [], .ro],res:= []}
 |218=>some {cx:= [.va [false,false,true,false,true], .ro],res:= [false,false,true,false,true,false]}
 |235=>some {cx:= [.va [true], .ro],res:= [true]}
 |236=>some {cx:= [.va [true], .ro],res:= [true],wn:=true}
 |241=>some {cx:= [.ro, .ro],res:= []}
 |242=>some {cx:= [.va [true], .ro],res:= [true],wn:=true,lo:= [false,true]}
 |243=>some {cx:= [.ro],res:= [true]}
 |246=>some {cx:= [.va [true], .ro],res:= [true],wn:=true}
 |248=>some {cx:= [.ro, .ro, .ro, .ro, .ro],res:= [false,true,true,true,false],dp:=true}
 |256=>some {cx:= [.ro, .ro],res:= [false,true,true,true,false],dp:=true}
 |264=>some {cx:= [.ro, .ro],res:= []}
 |285=>some {cx:= [.va [true], .ro, .va [true]],res:= [true]}
 |287=>some {cx:= [.ro, .ro],res:= [false],lo:= [false,true]}
 |293=>some {cx:= [.ro, .ro, .ro, .ro],res:= []}
 |340=>some {cx:= [.mu [true], .ro],res:= []}
 |342=>some {cx:= [.mu [true]],res:= []}
 |_=>none
noncomputable def x7 (f:Nat):Option HV:=match Tryz.prog.funcs[f]? with
 |some fn=>some ((zG5 f).getD (zHY fn))
 |none=>none
noncomputable def Cv:B0:={f:=x7}
theorem zHv:Tryz.prog.follows .mixedOrders=true:=by kernel_rfl
theorem zIA:Tryz.prog.funcs.size<1000000:=by
 have:(decide (Tryz.prog.funcs.size<1000000))=true:=by kernel_rfl
 exact of_decide_eq_true this
theorem S8 (f:Nat) (s:HV) (h:Cv f=some s):f<1000000:=by
 simp only [Cv]at h;unfold x7 at h;split at h
 ·rename_i fn hf;have:=(Array.getElem?_eq_some_iff.1 hf).1;exact Nat.lt_trans this zIA
 ·cases h
def X0 (P:Program) (sg:B0) (f:Nat) (xs:List AV) (r:AV):Bool:=
 match P.funcs[f]?,sg f with
 |some fn,some s=> !(fn.name== "runtime.NumGoroutine")&&N5 P fn s r&&xs.length==fn.params.size+fn.nfree
 |_,_=>false
abbrev Den (t:Tr) (r:AV) (xs:List AV):Prop:=t.den (Cw Tryz.prog Cv) (fun r'=>r'=r) (fun _ _ _ _=>False) [] xs
theorem Gc {f:Nat} {t:Tr} {xs:List AV} {r:AV} (hc:UY Tryz.prog Cv f=some t) (hk:X0 Tryz.prog Cv f xs r=true) (hd:Den t r xs):Cw Tryz.prog Cv f xs r:=by
 unfold X0 at hk;split at hk
 ·rename_i fn s hf hs;simp only [Ae,Bool.not_eq_true',beq_iff_eq]at hk;unfold Cw;rw [if_pos (S8 f s hs)];exact⟨s,hs,zDL zHv S8 hf hs hk.1.1 hc hk.1.2 hk.2 hd⟩
 ·cases hk
section
variable {Rt:Nat→List AV→AV→Prop} {R:AV→Prop} {L:LK} {js:List JK} {ρ:List AV}
theorem qY {i:EL} {b k:Tr} (hL:Kx L) (I:Nat→List AV→Prop) {m:Nat} (h0:I m (i.den ρ)) (DL: ∀m vs,I m vs→b.den Rt R L ((fun us=> ∃m',m'<m∧I m' us)::(fun us=>k.den Rt R L js (ρ++us))::js) (ρ++vs)):(Tr.loop i b k).den Rt R L js ρ:=by
 have hb: ∀W W':JK,(∀vs,W vs→W' vs)→ ∀vs,b.den Rt R L (W::(fun us=>k.den Rt R L js (ρ++us))::js) (ρ++vs)→b.den Rt R L (W'::(fun us=>k.den Rt R L js (ρ++us))::js) (ρ++vs):=
  fun W W' hW vs hv=>b.ik hL hv (.cons hW (En.refl _))
 have mono: ∀n vs,Jw (fun W vs=>b.den Rt R L (W::(fun us=>k.den Rt R L js (ρ++us))::js) (ρ++vs)) n vs→ ∀n',n≤n'→Jw (fun W vs=>b.den Rt R L (W::(fun us=>k.den Rt R L js (ρ++us))::js) (ρ++vs)) n' vs:=by
  intro n
  induction n with
  |zero=>intro vs h;exact h.elim
  |succ n ih=>
   intro vs h n' hn;cases n' with
   |zero=>omega
   |succ n'=>exact hb _ _ (fun us hu=>ih us hu n' (by omega)) vs h
 have key: ∀m vs,I m vs→Jw (fun W vs=>b.den Rt R L (W::(fun us=>k.den Rt R L js (ρ++us))::js) (ρ++vs)) (m+1) vs:=by
  intro m
  induction m using Nat.strongRecOn with
  |_ m ih=>intro vs hI;exact hb _ _ (fun us ⟨m',hm,hu⟩=>mono _ _ (ih m' hm us hu) m (by omega)) vs (DL m vs hI)
 exact⟨m+1,key m _ h0⟩
theorem Zu:Kx (fun _ _ _ _=>False):=fun _ _ _ _ _ _ h=>h
end
@[simp] theorem zIj (ρ:List AV):Bj ρ []↔True:=⟨fun _=>trivial,fun _=>Ff ρ⟩
@[simp] theorem zH5 (ρ:List AV) (x:E) (b:Bool) (gs:Gd):Bj ρ ((x,b)::gs)↔x.den ρ= .bool b∧Bj ρ gs:=
 ⟨fun h=>⟨h (x,b) (by simp),fun g hg=>h g (by simp [hg])⟩,fun h g hg=>by rcases Ag.1 hg with rfl|hg;exact h.1;exact h.2 g hg⟩
attribute [simp] E.den EL.den Cn.den AV.fld AV.proj AV.deref AV.len AV.slen AV.idx AV.nth AV.gq AV.j7 AV.conv AV.bin AV.bbin AV.sbin AV.app AV.da AV.rep
@[simp] theorem zGr (cs:List AV):(AV.agg cs).cells=cs:=rfl
@[simp] theorem zHf (k:IntKind) (n:Int):(AV.int k n).cells= [.int k n]:=rfl
@[simp] theorem zGm (b:Bool):(AV.bool b).cells= [.bool b]:=rfl
@[simp] theorem zGw (s:List UInt8):(AV.str s).cells= [.str s]:=rfl
@[simp] theorem zHy (xs:List AV):(AV.sl xs).cells= [.sl xs]:=rfl
@[simp] theorem zGo (k:IntKind) (n:Int):(AV.int k n).scalar=true:=rfl
@[simp] theorem zF4 (b:Bool):(AV.bool b).scalar=true:=rfl
@[simp] theorem zGl (s:List UInt8):(AV.str s).scalar=true:=rfl
@[simp] theorem zHQ (b c d:Bool):AV.cond (.bool b) (.bool c) (.bool d)= .bool (bif b then c else d):=by cases b<;>rfl
theorem zxb {y:AV} (h:y.scalar=true):y.cells= [y]:=by cases y<;>first|rfl|simp [AV.scalar]at h
theorem A8 {n:Int} (h1: -9223372036854775808≤n) (h2:n≤9223372036854775807):IntKind.i64.wrap n=n:=by rw [IntKind.wrap_i64];omega
end Go.Proofs.YtbmbkgalkfmjdaaGreatDoor
end
section
namespace Go.Proofs.YtbmbkgalkfmjdaaGreatDoor
open Go.RowKit
section
variable {Rt:Nat→List AV→AV→Prop} {R:AV→Prop} {L:LK} {js:List JK} {ρ:List AV}
theorem Cb {gs:Gd} {c:Cn} {k:Tr} (h:Bj ρ gs→c.den ρ) (hk:k.den Rt R L js ρ):(Tr.ca gs c k).den Rt R L js ρ:=⟨h,hk⟩
theorem Wm {gs:Gd} {f:Nat} {args:EL} {k:Tr} {r:AV} (h:Bj ρ gs→Rt f (args.den ρ) r) (hk:k.den Rt R L js (ρ++ [r])):(Tr.call gs (.inl f) args k).den Rt R L js ρ:=⟨r,h,hk⟩
theorem ZY {gs:Gd} {x:E} {args:EL} {k:Tr} {r:AV} (h:Bj ρ gs→ ∃g caps,x.den ρ= .fn g caps∧Rt (1000000+g) (args.den ρ++caps) r∧ ∀y∈r.cells,y.scalar=true) (hk:k.den Rt R L js (ρ++ [r])):(Tr.call gs (.inr x) args k).den Rt R L js ρ:=⟨r,h,hk⟩
theorem EI {c:E} {a b:Tr} {t:Bool} (h:c.den ρ= .bool t) (ha:t=true→a.den Rt R L js ρ) (hb:t=false→b.den Rt R L js ρ):(Tr.ite c a b).den Rt R L js ρ:=⟨t,h,ha,hb⟩
theorem IP {r:E} (h:R (r.den ρ)):(Tr.ret r).den Rt R L js ρ:=h
theorem NW {es:EL} {j:JK} (h:j (es.den ρ)):(Tr.jmp 0 es).den Rt R L (j::js) ρ:=h
theorem aI {es:EL} {i j:JK} (h:j (es.den ρ)):(Tr.jmp 1 es).den Rt R L (i::j::js) ρ:=h
end
def vA (cn:Nat) (xs:List AV):Prop:= ∀x∈xs,∃cs,x= .agg cs∧cs.length=cn
theorem vA.at {cn:Nat} {xs:List AV} (h:vA cn xs) {q:Nat} (hq:q<xs.length): ∃cs,xs[q]= .agg cs∧cs.length=cn:=h _ (List.getElem_mem hq)
section
variable {Rt:Nat→List AV→AV→Prop} {R:AV→Prop} {L:LK} {js:List JK} {ρ:List AV} {α β σ τ:Type}
theorem zGX {x:E} {sz:Nat} {xs:List α} (f:α→AV) (hx:x.den ρ= .sl (xs.map f)) (hf: ∀y,(f y).cells.length=sz):Cn.den ρ (.issl x sz):=⟨_,hx,by simp [hf]⟩
theorem zFQ {x:E} {sz:Nat} {xs:List α} (f:α→AV) (hx:x.den ρ= .sl (xs.map f)) (hf: ∀y,(f y).cells.length=sz∧ ∀z∈(f y).cells,z.scalar=true):Cn.den ρ (.flatS x sz):=⟨_,hx,by simp only [List.mem_map];rintro _ ⟨y,_,rfl⟩;exact hf y⟩
end
@[simp] def xW (n:Int):AV:= .int .i64 n
@[simp] def Q0 (n:Int):AV:= .int .u8 n
@[simp] def IX (x:List UInt8):AV:= .str x
attribute [simp] BT Ta AV.sidx AV.aeq AV.leq AV.seq AV.sk AV.dj AV.bytes AV.text
end Go.Proofs.YtbmbkgalkfmjdaaGreatDoor
end
section
namespace Go.Proofs.YtbmbkgalkfmjdaaGreatDoor
open Go.RowKit
section
variable {P:Program} {w:World}
theorem DP.j5 {ts:List TypeId} {vs:List Value} {xs:List AV} {rf lf hs:List Nat} (h:DP P w ts [] [] vs xs rf lf hs): ∀(ms:List PM) (lo:List Bool),(∀m∈ms,m= .ro)→DP P w ts ms lo vs xs rf lf hs:=by
 generalize hm:([]:List PM)=m0 at h;generalize hn:([]:List Bool)=n0 at h
 induction h with
 |nil=>intro ms lo _;exact .nil
 |lent h1 _ _ _ _=>subst hn;cases h1
 | @cons t ts ms' lo' v vs x xs f h rf lf hs Ba _ ih=>
  subst hm;subst hn;intro ms lo EW;refine .cons ?_ (ih rfl rfl ms.tail lo.tail fun m hm=>EW m (List.mem_of_mem_tail hm));have:ms.headD .ro= .ro:=by cases ms with|nil=>rfl|cons m ms=>exact EW m (by simp)
  rw [this];exact Ba
 |free h1 _ ih=>subst hm;subst hn;intro ms lo EW;exact .free h1 (ih rfl rfl ms.tail lo.tail fun m hm=>EW m (List.mem_of_mem_tail hm))
theorem D5.j5 {ts:List TypeId} {ms:List PM} {vs:List Value} {Bs:List AV} {f o:List Nat} (h:D5 P w ts ms vs Bs f o) (EW: ∀m∈ms,m= .ro):D5 P w ts [] vs Bs f o:=by
 have hd: ∀{ms:List PM},(∀m∈ms,m= .ro)→ms.headD .ro= .ro:=by intro ms h;cases ms with|nil=>rfl|cons m ms=>exact h m (by simp)
 induction h with
 |nil=>exact .nil
 |ro _ _ ih=>exact .ro rfl (ih fun m hm=>EW m (List.mem_of_mem_tail hm))
 |va h9 _ _=>rw [hd EW]at h9;cases h9
 |mu h9 _ _ _ _=>rw [hd EW]at h9;cases h9
 |bx h9 _ _ _ _ _ _ _ _=>rw [hd EW]at h9;cases h9
end
noncomputable def gD (f:Nat) (r:AV):Bool:=
 match Tryz.prog.funcs[f]?,Cv f with
 |some fn,some s=>s.cx.all (fun m=>match m with| .ro=>true|_=>false)&&s.ft.isEmpty&&(match fn.resultTypes.toList with| [t]=> !Hd Tryz.prog t s.res|_=>false)&&N5 Tryz.prog fn {cx:= [],res:= []} r
 |_,_=>false
theorem zA3 {f:Nat} {xs:List AV} {r:AV} (h:Cw Tryz.prog Cv f xs r) (hp:gD f r=true):Cw Tryz.prog Cv (1000000+f) xs r:=by
 unfold gD at hp;split at hp
 ·rename_i fn s hf hs;simp only [Ae,AG]at hp;obtain⟨⟨⟨h1,EC⟩,h2⟩,h3⟩:=hp;have EC:s.ft= []:=by simpa using EC
  have Hx: ∀m∈s.cx,m= .ro:=fun m hm=>by
   have:=h1 m hm;split at this
   ·rfl
   ·cases this
  unfold Cw at h ⊢;rw [if_pos (S8 f s hs)]at h;rw [if_neg (by omega),Nat.add_sub_cancel_left];obtain⟨s',Bh,fn',T0,hb,hn,_,hl,_,hc⟩:=h;rw [hs]at Bh;cases Bh;rw [hf]at T0;cases T0;rw [EC]at hc;refine⟨fn,hf,hb,hn,h3,hl,by simp,fun w vs rf lf Bh Ay hd hd2 Co Ev=>(hc w vs rf lf Bh (Ay.j5 _ _ Hx) hd hd2 Co Ev).mono ?_⟩;rintro e w' ⟨v,rfl,⟨R,Bs,f1,o1,f2,o2,e1,e2,e3,e4,e5,e6⟩,hm⟩;rw [EC]at e3;refine⟨v,rfl,⟨R,Bs,f1,o1,f2,o2,e1, ?_,e3.j5 Hx,e4,e5,e6⟩,hm⟩;unfold KQ at e2 ⊢;split at h2
  ·rename_i t ht;rw [ht]at e2 ⊢;simp only at e2 ⊢;unfold E6 at e2 ⊢;have h2:Hd Tryz.prog t s.res=false:=by simpa using h2
   rw [if_neg (by rw [h2];simp)]at e2;rw [if_neg (by simp [Hd])];exact e2
  ·cases h2
 ·cases hp
section
variable {Rt:Nat→List AV→AV→Prop} {R:AV→Prop} {L:LK} {js:List JK} {ρ:List AV}
theorem zzj {i:EL} {b k:Tr} (hL:Kx L) (n:Nat) (st:Nat→List AV) (J:Nat→Prop) (hJ:J 0) (h0:i.den ρ=st 0) (hb: ∀q,q≤n→J q→ ∀W:JK,(q<n→J (q+1)→W (st (q+1)))→b.den Rt R L (W::(fun us=>k.den Rt R L js (ρ++us))::js) (ρ++st q)):(Tr.loop i b k).den Rt R L js ρ:=by refine qY hL (fun m vs=> ∃q,q+m=n∧vs=st q∧J q) (m:=n) ⟨0,by omega,h0,hJ⟩ ?_;rintro m vs ⟨q,hq,rfl,hj⟩;exact hb q (by omega) hj _ fun Ak QJ=>⟨m-1,by omega,q+1,by omega,rfl,QJ⟩
end
def Tu (cn:Nat):Tr:=
 .ca [] (.dfd (.len (.var 0)))<|
 .loop (.cons (.int .i64 (0)) .nil) (
  .ca [] (.dfd (.bin .lss (.var 2) (.len (.var 0))))<|
  .ite (.bin .lss (.var 2) (.len (.var 0))) (
  .ca [] (.inb (.var 2) (.var 0) cn)<|
  .call [] (.inr (.var 1)) (.cons (.fld (.idx (.var 0) (.var 2)) 0 cn true) .nil)<|
  .ite (.var 3) (
   .ret (.var 2)) (
   .ca [] (.dfd (.bin .add (.var 2) (.int .i64 (1))))<|
   .jmp 0 (.cons (.bin .add (.var 2) (.int .i64 (1))) .nil))) (
  .jmp 1 .nil)) (
  .ret (.int .i64 (-1)))
def bK:Tr:=
 .ca [] (.dfd (.len (.var 0)))<|
 .loop (.cons (.int .i64 (0)) .nil) (
  .ca [] (.dfd (.bin .lss (.var 2) (.len (.var 0))))<|
  .ite (.bin .lss (.var 2) (.len (.var 0))) (
  .ca [] (.inb (.var 2) (.var 0) 1)<|
  .call [] (.inr (.var 1)) (.cons (.fld (.idx (.var 0) (.var 2)) 0 1 false) .nil)<|
  .ite (.var 3) (
   .ret (.var 2)) (
   .ca [] (.dfd (.bin .add (.var 2) (.int .i64 (1))))<|
   .jmp 0 (.cons (.bin .add (.var 2) (.int .i64 (1))) .nil))) (
  .jmp 1 .nil)) (
  .ret (.int .i64 (-1)))
def Em {α:Type} (p:α→Option Bool):List α→Int→Option Int
 | [],_=>some (-1)
 |x::xs,i=>(p x).bind fun b=>if b=true then some i else Em p xs (i+1)
noncomputable def Fz {α:Type} (xs:List α) (p:α→Option Bool):Option Int:=req (xs.length≤9223372036854775806) (Em p xs 0)
noncomputable def GN {α:Type} (xs:List α) (p:α→Option Bool):Option Bool:=(Fz xs p).bind fun i=>some (decide (i≥0))
noncomputable def NY {α:Type} (bytes:Nat) (xs:List α):Option (List α):=req ((xs.length:Int)*bytes≤140737488355328∧(xs.length:Int)≤140737488355328) (some xs)
theorem zv3 {α:Type} {p:α→Option Bool} {l:List α} {r:Int} {q:Nat} (hq:q<l.length) (h:Em p (l.drop q) q=some r): ∃b,p l[q]=some b∧(b=true→r=q)∧(b=false→Em p (l.drop (q+1)) ((q+1:Nat):Int)=some r):=by
 rw [List.drop_eq_getElem_cons hq]at h;obtain⟨b,hb,h⟩:=Hc h;refine⟨b,hb, ?_, ?_⟩
 ·rintro rfl;simpa using h.symm
 ·rintro rfl;simpa using h
theorem aZ {α:Type} {av:α→AV} {l:List α} {p:α→Option Bool} {cn g:Nat} {caps:List AV} {r:Int} (hs: ∀x,∃cs,av x= .agg cs∧cs.length=cn) (h:Fz l p=some r) (hf: ∀x b,p x=some b→Cw Tryz.prog Cv (1000000+g) (av x::caps) (.bool b)):Den (Tu cn) (.int .i64 r) [.sl (l.map av), .fn g caps]:=by
 obtain⟨hn,h⟩:=GV h;unfold Den Tu;refine Cb (by simp) ?_;refine zzj Zu l.length (fun q=> [.int .i64 q]) (fun q=>Em p (l.drop q) q=some r) (by simpa using h) (by simp) fun q hq hJ W hW=> ?_;by_cases Ak:q<l.length
 ·obtain⟨cs,hc,hl⟩:=hs l[q];obtain⟨b,hb,Iw,EA⟩:=zv3 Ak hJ;refine Cb (by simp [BT]) (EI (t:=true) (by simp [BT,Ak]) (fun _=> ?_) (by simp));refine Cb (fun _=>⟨.i64,q,l.length,by simp,by omega,by simp,by omega,by simp [Ak,hc,hl]⟩) (ZY (r:= .bool b) (fun _=>⟨g,caps,by simp, ?_,by simp⟩) ?_)
  ·have:=hf l[q] b hb;rw [hc]at this;simpa [Ak,hc,←hl]using this
  ·cases b with
   |true=>exact EI (t:=true) (by simp) (fun _=>IP (by simp [Iw rfl])) (by simp)
   |false=>refine EI (t:=false) (by simp) (by simp) fun _=>Cb (by simp [BT]) (NW ?_);have:=hW Ak (EA rfl);simpa [BT,A8 (n:=(q:Int)+1) (by omega) (by omega)]using this
 ·have Jd:q=l.length:=by omega
  subst Jd;have hr:r= -1:=by simpa [Em]using hJ.symm
  refine Cb (by simp [BT]) (EI (t:=false) (by simp [BT]) (by simp) fun _=>aI ?_);exact IP (by simp [hr])
theorem zy4 {α:Type} {av:α→AV} {l:List α} {p:α→Option Bool} {g:Nat} {caps:List AV} {r:Int} (hs: ∀x,(av x).cells= [av x]) (h:Fz l p=some r) (hf: ∀x b,p x=some b→Cw Tryz.prog Cv (1000000+g) (av x::caps) (.bool b)):Den bK (.int .i64 r) [.sl (l.map av), .fn g caps]:=by
 obtain⟨hn,h⟩:=GV h;unfold Den bK;refine Cb (by simp) ?_;refine zzj Zu l.length (fun q=> [.int .i64 q]) (fun q=>Em p (l.drop q) q=some r) (by simpa using h) (by simp) fun q hq hJ W hW=> ?_;by_cases Ak:q<l.length
 ·obtain⟨b,hb,Iw,EA⟩:=zv3 Ak hJ;refine Cb (by simp [BT]) (EI (t:=true) (by simp [BT,Ak]) (fun _=> ?_) (by simp));refine Cb (fun _=>⟨.i64,q,l.length,by simp,by omega,by simp,by omega,by simp [Ak,hs]⟩) (ZY (r:= .bool b) (fun _=>⟨g,caps,by simp, ?_,by simp⟩) ?_)
  ·have:=hf l[q] b hb;simpa [Ak,hs]using this
  ·cases b with
   |true=>exact EI (t:=true) (by simp) (fun _=>IP (by simp [Iw rfl])) (by simp)
   |false=>refine EI (t:=false) (by simp) (by simp) fun _=>Cb (by simp [BT]) (NW ?_);have:=hW Ak (EA rfl);simpa [BT,A8 (n:=(q:Int)+1) (by omega) (by omega)]using this
 ·have Jd:q=l.length:=by omega
  subst Jd;have hr:r= -1:=by simpa [Em]using hJ.symm
  refine Cb (by simp [BT]) (EI (t:=false) (by simp [BT]) (by simp) fun _=>aI ?_);exact IP (by simp [hr])
def Ts (f:Nat):Tr:=
 .call [] (.inl f) (.cons (.var 0) (.cons (.var 1) .nil))<|
 .ca [] (.dfd (.bin .geq (.var 2) (.int .i64 (0))))<|
 .ret (.bin .geq (.var 2) (.int .i64 (0)))
theorem aW {α:Type} {l:List α} {p:α→Option Bool} {f:Nat} {x y:AV} {r:Bool} (h:GN l p=some r) (hf: ∀i,Fz l p=some i→Cw Tryz.prog Cv f [x,y] (.int .i64 i)):Den (Ts f) (.bool r) [x,y]:=by obtain⟨i,hi,h⟩:=Hc h;unfold Den Ts;refine Wm (fun _=>by simpa using hf i hi) (Cb (by simp [BT]) (IP ?_));simp only [Ah]at h;simp [BT,←h]
def Th (bytes sz:Nat):Tr:=
 .ca [] (.dfd (.len (.var 0)))<|
 .cm [] (.var 0)<|
 .ite (.var 1) (
  .ret (.lst .nil)) (
  .ca [] (.room (.lst .nil) (.var 0) bytes)<|
  .ca [] (.flatS (.var 0) sz)<|
  .ret (.app (.lst .nil) (.var 0)))
def rX (bytes sz:Nat):Tr:=
 .ca [] (.dfd (.len (.var 0)))<|
 .cm [] (.var 0)<|
 .ite (.var 1) (
  .ret (.lst .nil)) (
  .ca [] (.room (.lst .nil) (.var 0) bytes)<|
  .ca [] (.issl (.var 0) sz)<|
  .ret (.app (.lst .nil) (.var 0)))
theorem ZT {α:Type} {av:α→AV} {xs r:List α} {bytes sz:Nat} (hs: ∀x,(av x).cells.length=sz∧ ∀z∈(av x).cells,z.scalar=true) (h:NY bytes xs=some r):Den (Th bytes sz) (.sl (r.map av)) [.sl (xs.map av)]:=by
 obtain⟨hq,h⟩:=GV h;cases h;unfold Den Th;refine Cb (by simp) fun b hb=> ?_;cases b with
 |true=>have:=hb (by simp) rfl;exact EI (t:=true) (by simp) (fun _=>IP (by simpa using this.symm)) (by simp)
 |false=>exact EI (t:=false) (by simp) (by simp) fun _=>Cb (fun _=>⟨0,xs.length,by simp,by simp,by simpa using hq.1,by simpa using hq.2⟩) (Cb (fun _=>zFQ (xs:=xs) av (by simp) hs) (IP (by simp)))
theorem zzQ {α:Type} {av:α→AV} {xs r:List α} {bytes sz:Nat} (hs: ∀x,(av x).cells.length=sz) (h:NY bytes xs=some r):Den (rX bytes sz) (.sl (r.map av)) [.sl (xs.map av)]:=by
 obtain⟨hq,h⟩:=GV h;cases h;unfold Den rX;refine Cb (by simp) fun b hb=> ?_;cases b with
 |true=>have:=hb (by simp) rfl;exact EI (t:=true) (by simp) (fun _=>IP (by simpa using this.symm)) (by simp)
 |false=>exact EI (t:=false) (by simp) (by simp) fun _=>Cb (fun _=>⟨0,xs.length,by simp,by simp,by simpa using hq.1,by simpa using hq.2⟩) (Cb (fun _=>zGX (xs:=xs) av (by simp) hs) (IP (by simp)))
end Go.Proofs.YtbmbkgalkfmjdaaGreatDoor
end
section
namespace Go.Proofs.YtbmbkgalkfmjdaaGreatDoor
open Go.ChangeShapes Go.WideShapes Go.ChangeAt Go.RowKit
theorem zDx {P:Program} {w:World}:DP P w [] [] [] [] [] [] [] []:= .nil
theorem zwh {P:Program} {w:World} {t:TypeId} {ts:List TypeId} {v:Value} {vs:List Value} {x:AV} {xs:List AV} {f rf:List Nat} (h:Rd w [v] [x] f) (k:DP P w ts [] [] vs xs rf [] []):DP P w (t::ts) [] [] (v::vs) (x::xs) (f++rf) [] []:=
 DP.cons (h:= []) (hs:= []) (ms:= []) (lo:= []) ⟨h,rfl⟩ k
theorem zDC {P:Program} {sg:B0} {f:Nat} {fn:Func} {t:TypeId} {xs:List AV} (h:Cw P sg f xs (.bool true)) (hf:f<1000000) {s:HV} (hs:sg f=some s) (EC:s.ft= []) (Hx: ∀m∈s.cx,m= .ro) (EB:Hd P t s.res=false) (Hp:P.funcs[f]?=some fn) (hr:fn.resultTypes.toList= [t])
  {w:World} {vs:List Value} {rf:List Nat} (ha:DP P w fn.params.toList [] [] vs xs rf [] []) (Ev:F6.n≤w.heap.size∧F6.K w):
  Calls P f vs.toArray w fun e w'=>e= .returned (.bool true)∧Below w.heap.size w w':=by
 unfold Cw at h;rw [if_pos hf]at h;obtain⟨s',Bh,fn',JU,_,_,_,_,_,hc⟩:=h;rw [hs]at Bh;obtain rfl:=Option.some.inj Bh;rw [Hp]at JU;obtain rfl:=Option.some.inj JU;refine(hc w vs rf [] [] (by rw [EC,List.append_nil];exact ha.j5 _ _ Hx) (by simp) (by simp) (by simp) ⟨Ev.1,Ev.2,by simp⟩).mono fun e w' ⟨v,he,hp⟩=> ?_;obtain⟨⟨R,bs,f1,o1,f2,o2,hR,AQ,_⟩,hm⟩:=hp;have hRt:R= .bool true:=by
  cases bs with
  |nil=>exact hR.symm
  |cons=>cases hR
 subst hRt;rw [hr]at AQ;have h2:E6 P w' t s.res v (.bool true) f1 o1:=AQ;unfold E6 at h2;rw [EB]at h2;obtain⟨h3,_⟩:=h2;have:v= .bool true:=by cases h3;rfl
 subst this;exact⟨he,hm.below⟩
section
variable {P:Program} {t:TypeId} {Q:List AV→Prop} {H:Type} {enc:TypeId × Value→H} {w:World} {spare:Nat→Bool} {held:Bool} {v:Value} {d:DataW H} {p:List MemPlace} {r:Reach} {base:Nat}
theorem zFD (hO:HU P t Q) (hc:v.cells= #[v]) (h:DataW.Trod enc P w 0 spare held t v d p): ∃x f,Rd w [v] [x] f∧Q [x]:=by
 obtain⟨n,h⟩:=h;rw [hc]at h;obtain⟨_,_,xs,f,hr,hq⟩:=hO.2 _ _ _ _ _ _ _ _ h;have hl:=hr.len
 match xs,hl with
 | [x],_=>exact⟨x,f,hr,hq⟩
theorem zvK {e:TypeId} (hO:HU P t Q) (ht:P.underlying t=some (.slice e)) (hv:Value.okWide P w r base t v) (h:DataW.Trod enc P w 0 spare held t v d p): ∃x f,Rd w [v] [x] f∧Q [x]:=by obtain⟨a,l,c,rfl⟩:=okWide_slice ht hv;exact zFD hO rfl h
end
theorem zG7 {a b:Bool} (ha:a=true) (hb:b=true):(a&&b)=true:=by rw [ha,hb];rfl
def Pu (n:Int):Prop:=0≤n∧n≤255
def XD {α:Type} (ok:α→Prop) (l:List α):Prop:=l.length≤9223372036854775807∧ ∀x∈l,ok x
theorem zIx {n:Int} (h:E7 .u8 n):Pu n:=by unfold E7 at h;simp only [IntKind.wrap,IntKind.bits,IntKind.signed]at h;unfold Pu;simp at h;omega
section
variable {P:Program} {t e:TypeId} {α:Type} {ok:α→Prop} {av:α→AV}
theorem zIr (ht:P.underlying t=some (.int .u8)) (hc:P.cellsOf t=1):HU P t fun xs=> ∃n,Pu n∧xs= [Q0 n]:=
 (zFd ht hc).mono fun _ ⟨n,h,e⟩=>⟨n,zIx h,e⟩
theorem zy7: ∀{ys:List AV},(∀y∈ys,KE false (fun xs=> ∃c,ok c∧xs= [av c]) y)→ ∃l:List α,(∀c∈l,ok c)∧ys=l.map av
 | [],_=>⟨[],by simp,rfl⟩
 |y::ys,h=>by obtain⟨l,hl,rfl⟩:=zy7 fun z hz=>h z (List.mem_cons_of_mem _ hz);have h0:=h y (List.mem_cons_self ..);simp only [KE,AX,if_false]at h0;obtain⟨_,c,hk,hc⟩:=h0;exact⟨c::l,by simpa using⟨hk,hl⟩,by simp at hc;simp [hc]⟩
theorem zH6 (ht:P.underlying t=some (.slice e)) (hc:P.cellsOf t=1) (MN:P.cellsOf e=1) (he:HU P e fun xs=> ∃c,ok c∧xs= [av c]):HU P t fun xs=> ∃l:List α,XD ok l∧xs= [.sl (l.map av)]:=
 (zAL false ht hc he (.inr MN)).mono fun _ ⟨ys,hl,hy,e⟩=>by obtain⟨l,hk,rfl⟩:=zy7 hy;exact⟨l,⟨by simpa using hl,hk⟩,e⟩
end
end Go.Proofs.YtbmbkgalkfmjdaaGreatDoor
end
section
namespace Go.Proofs.YtbmbkgalkfmjdaaGreatDoor
open Go.RowKit
set_option maxRecDepth 100000
structure Ab where
 af:List UInt8
 a7:List UInt8
 bh:Bool
@[simp] def rV (x:Ab):AV:= .agg [.str x.af, .str x.a7, .bool x.bh]
structure Az where
 az:List Int
 cc:Int
 a8:Int
@[simp] def zF2 (x:Az):AV:= .agg [.sl (x.az.map Q0), .int .i64 x.cc, .int .u64 x.a8]
structure Aq where
 ab:List UInt8
 bm:Int
 aq:Int
@[simp] def xX (x:Aq):AV:= .agg [.str x.ab, .int .i64 x.bm, .int .i64 x.aq]
structure Ad where
 ab:List UInt8
 ar:List (List UInt8)
 ah:List Aq
@[simp] def rS (x:Ad):AV:= .agg [.str x.ab, .sl (x.ar.map IX), .sl (x.ah.map xX)]
structure AI where
 aw:List (List UInt8)
@[simp] def zH8 (x:AI):AV:= .agg [.sl (x.aw.map IX)]
structure Ar where
 ab:List UInt8
 aj:List Ad
 bp:List Int
 ao:List Ab
@[simp] def zFA (x:Ar):AV:= .agg [.str x.ab, .sl (x.aj.map rS), .sl (x.bp.map xW), .sl (x.ao.map rV)]
structure AY where
 al:List UInt8
 bf:Bool
@[simp] def zHr (x:AY):AV:= .agg [.str x.al, .bool x.bf]
structure AK where
 ae:Ar
 cy:AY
 bj:AY
@[simp] def zGF (x:AK):AV:= .agg [.str x.ae.ab, .sl (x.ae.aj.map rS), .sl (x.ae.bp.map xW), .sl (x.ae.ao.map rV), .str x.cy.al, .bool x.cy.bf, .str x.bj.al, .bool x.bj.bf]
structure Bv where
 ak:Int
 br:AI
 bw:AI
@[simp] def zEl (x:Bv):AV:= .agg [.int .i64 x.ak, .sl (x.br.aw.map IX), .sl (x.bw.aw.map IX)]
structure D4 where
 a6:Int
 bd:Int
 ax:Bv
@[simp] def zzJ (x:D4):AV:= .agg [.int .i64 x.a6, .int .i64 x.bd, .int .i64 x.ax.ak, .sl (x.ax.br.aw.map IX), .sl (x.ax.bw.aw.map IX)]
structure DQ where
 ak:Int
 bz:Int
 ax:D4
@[simp] def zAI (x:DQ):AV:= .agg [.int .i64 x.ak, .int .i64 x.bz, .int .i64 x.ax.a6, .int .i64 x.ax.bd, .int .i64 x.ax.ax.ak, .sl (x.ax.ax.br.aw.map IX), .sl (x.ax.ax.bw.aw.map IX)]
structure Ax where
 ak:Int
 af:List UInt8
 a7:List UInt8
 jm:Int
@[simp] def yB (x:Ax):AV:= .agg [.int .i64 x.ak, .str x.af, .str x.a7, .int .i64 x.jm]
structure BR where
 af:List UInt8
 a7:List UInt8
 di:Bool
@[simp] def zHJ (x:BR):AV:= .agg [.str x.af, .str x.a7, .bool x.di]
structure BU where
 ay:List UInt8
 cd:List Ax
@[simp] def zHc (x:BU):AV:= .agg [.str x.ay, .sl (x.cd.map yB)]
structure bL where
 mz:Int
@[simp] def uV (x:bL):AV:= .agg [.int .i64 x.mz]
structure rZ where
 nj:Int
 nt:Int
@[simp] def zyx (x:rZ):AV:= .agg [.int .i64 x.nj, .int .i64 x.nt]
structure wP where
 o6:Int
 me:bL
 l8:List bL
 nj:Int
 mh:List rZ
@[simp] def zE8 (x:wP):AV:= .agg [.int .i64 x.o6, .int .i64 x.me.mz, .sl (x.l8.map uV), .int .i64 x.nj, .sl (x.mh.map zyx)]
structure zvF where
 ak:Int
 ou:Int
 jm:Int
@[simp] def zzk (x:zvF):AV:= .agg [.int .i64 x.ak, .int .i64 x.ou, .int .i64 x.jm]
structure xJ where
 o7:Int
 n8:Int
@[simp] def zGV (x:xJ):AV:= .agg [.int .i64 x.o7, .int .i64 x.n8]
end Go.Proofs.YtbmbkgalkfmjdaaGreatDoor
end
section
namespace Go.Proofs.YtbmbkgalkfmjdaaGreatDoor
open Go.ChangeShapes Go.WideShapes Go.ChangeAt Go.RowKit
set_option maxRecDepth 100000
theorem op1:HU Tryz.prog 5 fun xs=> ∃n,Pu n∧xs= [Q0 n]:=zIr Tryz.underlying5 (by kernel_rfl)
theorem uD:HU Tryz.prog 22 fun xs=> ∃l:List Int,XD Pu l∧xs= [.sl (l.map Q0)]:=zH6 Tryz.underlying22 (by kernel_rfl) (by kernel_rfl) op1
end Go.Proofs.YtbmbkgalkfmjdaaGreatDoor
end
section
namespace Go.Proofs.YtbmbkgalkfmjdaaGreatDoor
open Go.RowKit
set_option maxRecDepth 100000
def Jr {α:Type} (p:α→Option Bool):List α→Option (List α)
 | []=>some []
 |x::xs=>(p x).bind fun b=>(Jr p xs).bind fun r=>some (if b=true then r else x::r)
noncomputable def Jj {α:Type} (xs:List α) (p:α→Option Bool):Option (List α):=req (xs.length≤9223372036854775806) (Jr p xs)
theorem Zz {α:Type} {p:α→Option Bool} (q:α→Bool): ∀{l:List α},(∀x∈l,p x=some (q x))→Jr p l=some (l.filter fun x=> !q x)
 | [],_=>rfl
 |x::l,h=>by have e:=Zz (p:=p) q (l:=l) fun y hy=>h y (List.mem_cons_of_mem _ hy);simp only [Jr,h x (by simp),e,Aa,List.filter_cons];cases q x<;>rfl
theorem zqv {α:Type} {p:α→Option Bool} {l r:List α} {q:Nat} (hq:q<l.length) (h:Jr p (l.drop q)=some r): ∃b r',p l[q]=some b∧Jr p (l.drop (q+1))=some r'∧r=if b=true then r' else l[q]::r':=by rw [List.drop_eq_getElem_cons hq]at h;obtain⟨b,hb,h⟩:=Hc h;obtain⟨r',hr,h⟩:=Hc h;exact⟨b,r',hb,hr,by simpa using h.symm⟩
theorem nJ {α:Type} {p:α→Option Bool}: ∀{l r:List α} (i:Int),Jr p l=some r→(Em p l i=some (-1)∧r=l)∨ ∃k r',k<l.length∧Em p l i=some (i+(k:Nat))∧Jr p (l.drop (k+1))=some r'∧r=l.take k++r'
 | [],r,i,h=>by cases h;exact .inl ⟨rfl,rfl⟩
 |x::l,r,i,h=>by
  obtain⟨b,hb,h⟩:=Hc h;obtain⟨r1,hr,h⟩:=Hc h;cases b with
  |true=>
   have:r1=r:=by simpa using h
   subst this;exact .inr ⟨0,r1,by simp,by simp [Em,hb],by simpa using hr,by simp⟩
  |false=>
   have:r=x::r1:=by simpa using h.symm
   subst this;rcases nJ (i+1) hr with⟨h1,rfl⟩|⟨k,r',h1,h2,h3,rfl⟩
   ·exact .inl ⟨by simp [Em,hb,h1],rfl⟩
   ·exact .inr ⟨k+1,r',by simp;omega,by simp [Em,hb,h2];omega,by simpa using h3,by simp⟩
def iI (ck:List Cn) (k:Tr):Tr:=ck.foldr (fun c k=> .ca [] c k) k
section
variable {Rt:Nat→List AV→AV→Prop} {R:AV→Prop} {L:LK} {js:List JK} {ρ:List AV}
theorem rO: ∀{ck:List Cn} {k:Tr},(∀c∈ck,c.den ρ)→k.den Rt R L js ρ→(iI ck k).den Rt R L js ρ
 | [],_,_,hk=>hk
 |c::ck,k,h,hk=>⟨fun _=>h c (by simp),rO (fun q hq=>h q (by simp [hq])) hk⟩
theorem zyy {t k:Tr} {K:List AV→Prop} (hK: ∀vs,K vs→k.den Rt R L js (ρ++vs)) (ht: ∀j:JK,(∀vs,K vs→j vs)→t.den Rt R L (j::js) ρ):(Tr.join t k).den Rt R L js ρ:=ht _ hK
end
def XI (fi cn:Nat) (g:Bool) (X:E) (ck:List Cn) (z:E):Tr:=
 .call [] (.inl fi) (.cons (.var 0) (.cons (.var 1) .nil))<|
 .ca [] (.dfd (.bin .eql (.var 2) (.int .i64 (-1))))<|
 .ite (.bin .eql (.var 2) (.int .i64 (-1))) (
  .ret (.var 0)) (
  .ca [] (.dfd (.bin .add (.var 2) (.int .i64 (1))))<|
  .loop (.cons (.var 2) (.cons (.bin .add (.var 2) (.int .i64 (1))) (.cons (.var 0) .nil))) (
  .ca [] (.dfd (.len (.var 5)))<|
  .ca [] (.dfd (.bin .lss (.var 4) (.len (.var 5))))<|
  .ite (.bin .lss (.var 4) (.len (.var 5))) (
   .join (
   .ca [] (.inb (.var 4) (.var 5) cn)<|
   iI ck<|
   .call [] (.inr (.var 1)) (.cons X .nil)<|
   .ca [] (.dfd (.not (.var 6)))<|
   .ite (.not (.var 6)) (
    .ca [] (.inb (.var 3) (.var 5) cn)<|
    .ca [] (.flat X cn g)<|
    .ca [] (.flat (.fld (.idx (.var 5) (.var 3)) 0 cn g) cn g)<|
    .ca [] (.dfd (.bin .add (.var 3) (.int .i64 (1))))<|
    .jmp 0 (.cons (.bin .add (.var 3) (.int .i64 (1))) (.cons (.set (.var 5) (.var 3) (.put (.idx (.var 5) (.var 3)) 0 X g)) .nil))) (
    .jmp 0 (.cons (.var 3) (.cons (.var 5) .nil)))) (
   .ca [] (.dfd (.bin .add (.var 4) (.int .i64 (1))))<|
   .jmp 0 (.cons (.var 6) (.cons (.bin .add (.var 4) (.int .i64 (1))) (.cons (.var 7) .nil))))) (
   .jmp 1 (.cons (.var 3) (.cons (.var 5) .nil)))) (
  .ca [] (.win (.var 4) (.var 3) (.len (.var 4)))<|
  .ca [] (.win (.var 4) (.var 3) (.len (.var 4)))<|
  .ca [] (.dfd (.bin .sub (.len (.var 4)) (.var 3)))<|
  .ca [] (.win (.app (.win (.var 4) (.int .i64 (0)) (.var 3)) (.rep (.bin .sub (.len (.var 4)) (.var 3)) z)) (.int .i64 (0)) (.var 3))<|
  .ret (.win (.app (.win (.var 4) (.int .i64 (0)) (.var 3)) (.rep (.bin .sub (.len (.var 4)) (.var 3)) z)) (.int .i64 (0)) (.var 3))))
theorem uQ {α:Type} {av:α→AV} {l r:List α} {p:α→Option Bool} {fi cn g9:Nat} {g:Bool} {X z:E} {ck:List Cn} {caps:List AV}
  (hs: ∀x,(av x).cells.length=cn∧(∀z∈(av x).cells,z.scalar=true)∧(g=true→ ∃cs,av x= .agg cs)∧(g=false→(av x).scalar=true)) (hcn:0<cn)
  (hX: ∀(a b c d:AV) (j:Nat) (ys:List AV) (x:α) (tl:List AV),ys[j]?=some (av x)→X.den ([a,b,c,d, .int .i64 j, .sl ys]++tl)=av x)
  (JO: ∀(a b c d:AV) (j:Nat) (ys:List AV) (x:α),ys[j]?=some (av x)→ ∀q∈ck,q.den [a,b,c,d, .int .i64 j, .sl ys])
  (h:Jj l p=some r) (hi: ∀i,Fz l p=some i→Cw Tryz.prog Cv fi [.sl (l.map av), .fn g9 caps] (.int .i64 i))
  (hf: ∀x b,p x=some b→Cw Tryz.prog Cv (1000000+g9) (av x::caps) (.bool b)):Den (XI fi cn g X ck z) (.sl (r.map av)) [.sl (l.map av), .fn g9 caps]:=by
 obtain⟨hn,h⟩:=GV h;unfold Den XI;have F1: ∀x y:α,(av y).dj 0 (av x) g=av x:=by
  intro x y;cases g with
  |false=>rfl
  |true=>
   obtain⟨cs,Bm⟩:=(hs x).2.2.1 rfl;have e1:=(hs x).1;have e2:=(hs y).1;have e3:(av x).cells=cs:=by rw [Bm];rfl
   have e4:(av y).cells.drop (0+cs.length)= []:=List.drop_eq_nil_of_le (by rw [e2,←e1,e3];omega);show AV.agg ((av y).cells.take 0++(av x).cells++(av y).cells.drop (0+(av x).cells.length))=av x;rw [e3,e4,List.append_nil,List.take_zero,List.nil_append,Bm]
 have dD: ∀x:α,(av x).fld 0 cn g=av x:=by
  intro x;cases g with
  |false=>have:=zxb ((hs x).2.2.2 rfl);simp [AV.fld,this]
  |true=>obtain⟨cs,Bm⟩:=(hs x).2.2.1 rfl;have e1:=(hs x).1;rw [Bm]at e1 ⊢;simp only [AV.fld,if_true,AV.cells]at e1 ⊢;rw [List.drop_zero,List.take_of_length_le (by omega)]
 have BF: ∀(e:E) (ρ:List AV) (x:α),e.den ρ=av x→Cn.den ρ (.flat e cn g):=fun e ρ x he=>by
  show(e.den ρ).cells.length=cn∧(∀y∈(e.den ρ).cells,y.scalar=true)∧(g=true→ ∃cs,e.den ρ= .agg cs)∧(g=false→(e.den ρ).scalar=true)
  rw [he];exact hs x
 rcases nJ 0 h with⟨h1,rfl⟩|⟨k0,r0,LA,h1,h2,rfl⟩
 ·refine Wm (r:= .int .i64 (-1)) (fun _=>hi _ (by unfold Fz;rw [show req (r.length≤9223372036854775806) (Em p r 0)=Em p r 0 from if_pos hn];exact h1)) ?_;exact Cb (by simp [BT]) (EI (t:=true) (by simp [BT]) (fun _=>IP (by simp)) (by simp))
 ·refine Wm (r:= .int .i64 k0) (fun _=>hi _ (by unfold Fz;rw [show req (l.length≤9223372036854775806) (Em p l 0)=Em p l 0 from if_pos hn,h1];simp)) ?_;have hw:IntKind.i64.wrap ((k0:Int)+1)=k0+1:=A8 (by omega) (by omega);refine Cb (by simp [BT]) (EI (t:=false) (by simp [BT];try omega) (by simp) fun _=>Cb (by simp [BT]) ?_);refine qY Zu (fun m vs=> ∃(j:Nat) (K zs r':List α),j+m=l.length∧vs= [.int .i64 K.length, .int .i64 j, .sl (zs.map av)]∧K.length<j∧zs.length=l.length∧zs.take K.length=K∧zs.drop j=l.drop j∧Jr p (l.drop j)=some r'∧l.take k0++r0=K++r') (m:=l.length-(k0+1))
   ⟨k0+1,l.take k0,l,r0,by omega, ?_,by simp;omega,rfl,by simp [Nat.min_eq_left (Nat.le_of_lt LA)],rfl,h2,rfl⟩ ?_
  ·simp [BT,hw,Nat.min_eq_left (Nat.le_of_lt LA)]
  rintro m vs ⟨j,K,zs,r',hj,rfl,hKj,LP,Pm,Pj,C7,AQ⟩;refine Cb (by simp) (Cb (by simp [BT]) ?_);by_cases Ak:j<l.length
  ·refine EI (t:=true) (by simp [BT,LP,Ak]) (fun _=> ?_) (by simp);obtain⟨b,r2,hb,CR,M8⟩:=zqv Ak C7;have UE:zs[j]?=some l[j]:=by
    have:=congrArg (fun L=>L[0]?) Pj;simpa [Ak]using this
   have FO:(zs.map av)[j]?=some (av l[j]):=by simp [UE]
   have JH:K.length<zs.length:=by omega
   have fR:IntKind.i64.wrap ((j:Int)+1)=j+1:=A8 (by omega) (by omega);have QR:IntKind.i64.wrap ((K.length:Int)+1)=K.length+1:=A8 (by omega) (by omega);refine zyy (K:=fun us=> ∃(K' zs':List α),us= [.int .i64 K'.length, .sl (zs'.map av)]∧K'.length<j+1∧zs'.length=l.length∧zs'.take K'.length=K'∧zs'.drop (j+1)=l.drop (j+1)∧l.take k0++r0=K'++r2) ?_ ?_
   ·rintro us ⟨K',zs',rfl,a1,a2,a3,a4,a5⟩;refine Cb (by simp [BT]) (NW ⟨m-1,by omega,j+1,K',zs',r2,by omega, ?_,a1,a2,a3,a4,CR,a5⟩);simp [BT,fR]
   ·intro J hJ;refine Cb (fun _=>⟨.i64,j,zs.length,by simp,by omega,by simp,by omega, ?_⟩) (rO (JO _ _ _ _ j (zs.map av) _ FO) (ZY (r:= .bool b) (fun _=>⟨g9,caps,by simp, ?_,by simp⟩) ?_))
    ·simp [AV.nth,UE,(hs l[j]).1]
    ·have e1:=hX (.sl (l.map av)) (.fn g9 caps) (.int .i64 k0) (.int .i64 K.length) j (zs.map av) l[j] [] FO;rw [List.append_nil]at e1;show Cw Tryz.prog Cv (1000000+g9) ([X.den [.sl (l.map av), .fn g9 caps, .int .i64 k0, .int .i64 K.length, .int .i64 j, .sl (zs.map av)]]++caps) (.bool b);rw [e1];exact hf _ _ hb
    ·refine Cb (by simp) ?_;have e2:=hX (.sl (l.map av)) (.fn g9 caps) (.int .i64 k0) (.int .i64 K.length) j (zs.map av) l[j] [.bool b] FO;cases b with
     |true=>refine EI (t:=false) (by simp) (by simp) fun _=>NW (hJ _ ⟨K,zs,by simp,by omega,LP,Pm, ?_,by rw [AQ,M8];simp⟩);have:=congrArg (List.drop 1) Pj;simpa [List.drop_drop]using this
     |false=>
      refine EI (t:=true) (by simp) (fun _=> ?_) (by simp);obtain⟨zk,Nh⟩: ∃zk,zs[K.length]?=some zk:=⟨zs[K.length],by simp [JH]⟩
      have e3:(E.idx (.var 5) (.var 3)).den ([AV.sl (l.map av), .fn g9 caps, .int .i64 k0, .int .i64 K.length, .int .i64 j, .sl (zs.map av)]++ [.bool false])=av zk:=by simp [AV.nth,Nh]
      refine Cb (fun _=>⟨.i64,K.length,zs.length,by simp,by omega,by simp,by omega, ?_⟩) (Cb (fun _=>BF _ _ _ e2) (Cb (fun _=>BF _ _ zk ?_) (Cb (by simp [BT]) (NW (hJ _ ⟨K++ [l[j]],zs.set K.length l[j], ?_,by simp;omega,by simpa using LP, ?_, ?_,by rw [AQ,M8];simp⟩)))))
      ·simp [AV.nth,Nh,(hs zk).1]
      ·exact(congrArg (fun y=>AV.fld y 0 cn g) e3).trans (dD zk)
      ·have e4:(E.set (.var 5) (.var 3) (.put (.idx (.var 5) (.var 3)) 0 X g)).den ([AV.sl (l.map av), .fn g9 caps, .int .i64 k0, .int .i64 K.length, .int .i64 j, .sl (zs.map av)]++ [.bool false])= .sl ((zs.set K.length l[j]).map av):=by
        show AV.da _ _ (AV.dj ((E.idx (.var 5) (.var 3)).den _) 0 (X.den _) g)=_;rw [e3,e2,F1];simp [AV.da,List.map_set]
       show EL.den _ (.cons (.bin .add (.var 3) (.int .i64 1)) (.cons (.set (.var 5) (.var 3) (.put (.idx (.var 5) (.var 3)) 0 X g)) .nil))=_;simp only [EL.den];have e5:(E.bin .add (.var 3) (.int .i64 1)).den ([AV.sl (l.map av), .fn g9 caps, .int .i64 k0, .int .i64 K.length, .int .i64 j, .sl (zs.map av)]++ [.bool false])= .int .i64 ((K++ [l[j]]).length:Int):=by simp [BT,QR]
       congr 1;congr 1
      ·rw [Ap,AH,List.take_add_one,List.take_set_of_le (Nat.le_refl _),Pm];simp [JH]
      ·rw [List.drop_set_of_lt (by omega)];have:=congrArg (List.drop 1) Pj;simpa [List.drop_drop]using this
  ·have dS:j=l.length:=by omega
   subst dS;refine EI (t:=false) (by simp [BT,LP]) (by simp) fun _=>aI ?_;have G6:r'= []:=by rw [List.drop_eq_nil_of_le (Nat.le_refl _)]at C7;exact(by simpa [Jr]using C7.symm)
   subst G6;rw [AQ,List.append_nil];have Nf:IntKind.i64.wrap ((zs.length:Int)-K.length)=zs.length-K.length:=A8 (by omega) (by omega);have d3:(E.var 3).den ([AV.sl (l.map av),AV.fn g9 caps]++ [AV.int .i64 (k0:Int)]++ [AV.int .i64 (K.length:Int),AV.sl (zs.map av)])= .int .i64 K.length:=by simp
   have d4:(E.var 4).den ([AV.sl (l.map av),AV.fn g9 caps]++ [AV.int .i64 (k0:Int)]++ [AV.int .i64 (K.length:Int),AV.sl (zs.map av)])= .sl (zs.map av):=by simp
   have dm:(E.bin .sub (.len (.var 4)) (.var 3)).den ([AV.sl (l.map av),AV.fn g9 caps]++ [AV.int .i64 (k0:Int)]++ [AV.int .i64 (K.length:Int),AV.sl (zs.map av)])= .int .i64 ((zs.length:Int)-K.length):=by simp [BT,Nf]
   have HA:Cn.den ([AV.sl (l.map av),AV.fn g9 caps]++ [AV.int .i64 (k0:Int)]++ [AV.int .i64 (K.length:Int),AV.sl (zs.map av)]) (.win (.var 4) (.var 3) (.len (.var 4))):=⟨.i64,K.length, .i64,zs.length,zs.length,d3,by simp,by rw [d4];simp,by omega,by omega,by omega⟩
   have dapp:(E.app (.win (.var 4) (.int .i64 (0)) (.var 3)) (.rep (.bin .sub (.len (.var 4)) (.var 3)) z)).den ([AV.sl (l.map av),AV.fn g9 caps]++ [AV.int .i64 (k0:Int)]++ [AV.int .i64 (K.length:Int),AV.sl (zs.map av)])= .sl ((zs.map av).take K.length++List.replicate (zs.length-K.length) (z.den ([AV.sl (l.map av),AV.fn g9 caps]++ [AV.int .i64 (k0:Int)]++ [AV.int .i64 (K.length:Int),AV.sl (zs.map av)]))):=by show AV.app (AV.win ((E.var 4).den _) (.int .i64 0) ((E.var 3).den _)) (AV.rep ((E.bin .sub (.len (.var 4)) (.var 3)).den _) _)=_;rw [d3,d4,dm];simp only [AV.win,AV.rep,AV.app,Int.toNat_natCast,Int.toNat_zero,List.drop_zero];congr 3;omega
   refine Cb (fun _=>HA) (Cb (fun _=>HA) (Cb (fun _=>fun hu=>by have:=dm.symm.trans hu;simp at this) (Cb (fun _=>⟨.i64,0, .i64,K.length,zs.length,rfl,d3, ?_,by omega,by omega,by omega⟩) (IP ?_))))
   ·refine(congrArg AV.len dapp).trans ?_;simp only [AV.len,Ap,List.length_take,List.length_map,List.length_replicate];congr 1;omega
   ·refine(congrArg (fun y=>AV.win y (.int .i64 0) (.int .i64 K.length)) dapp).trans ?_;simp only [AV.win,Int.toNat_natCast,Int.toNat_zero,List.drop_zero];rw [List.take_append_of_le_length (by simp;omega),List.take_take,Nat.min_self,←List.map_take,Pm]
def gL (fi cn:Nat) (X:E) (ck:List Cn) (z:E):Tr:=
 .call [] (.inl fi) (.cons (.var 0) (.cons (.var 1) .nil))<|
 .ca [] (.dfd (.bin .eql (.var 2) (.int .i64 (-1))))<|
 .ite (.bin .eql (.var 2) (.int .i64 (-1))) (
  .ret (.var 0)) (
  .ca [] (.dfd (.bin .add (.var 2) (.int .i64 (1))))<|
  .loop (.cons (.var 2) (.cons (.bin .add (.var 2) (.int .i64 (1))) (.cons (.var 0) .nil))) (
  .ca [] (.dfd (.len (.var 5)))<|
  .ca [] (.dfd (.bin .lss (.var 4) (.len (.var 5))))<|
  .ite (.bin .lss (.var 4) (.len (.var 5))) (
   .join (
   .ca [] (.inb (.var 4) (.var 5) cn)<|
   iI ck<|
   .call [] (.inr (.var 1)) (.cons X .nil)<|
   .ca [] (.dfd (.not (.var 6)))<|
   .ite (.not (.var 6)) (
    .ca [] (.inb (.var 3) (.var 5) cn)<|
    .ca [] (.agg X cn)<|
    .ca [] (.dfd (.bin .add (.var 3) (.int .i64 (1))))<|
    .jmp 0 (.cons (.bin .add (.var 3) (.int .i64 (1))) (.cons (.set (.var 5) (.var 3) (.put (.idx (.var 5) (.var 3)) 0 X true)) .nil))) (
    .jmp 0 (.cons (.var 3) (.cons (.var 5) .nil)))) (
   .ca [] (.dfd (.bin .add (.var 4) (.int .i64 (1))))<|
   .jmp 0 (.cons (.var 6) (.cons (.bin .add (.var 4) (.int .i64 (1))) (.cons (.var 7) .nil))))) (
   .jmp 1 (.cons (.var 3) (.cons (.var 5) .nil)))) (
  .ca [] (.win (.var 4) (.var 3) (.len (.var 4)))<|
  .ca [] (.win (.var 4) (.var 3) (.len (.var 4)))<|
  .ca [] (.dfd (.bin .sub (.len (.var 4)) (.var 3)))<|
  .ca [] (.win (.app (.win (.var 4) (.int .i64 (0)) (.var 3)) (.rep (.bin .sub (.len (.var 4)) (.var 3)) z)) (.int .i64 (0)) (.var 3))<|
  .ret (.win (.app (.win (.var 4) (.int .i64 (0)) (.var 3)) (.rep (.bin .sub (.len (.var 4)) (.var 3)) z)) (.int .i64 (0)) (.var 3))))
theorem zDf {α:Type} {av:α→AV} {l r:List α} {p:α→Option Bool} {fi cn g9:Nat} {X z:E} {ck:List Cn} {caps:List AV}
  (hs: ∀x,(av x).cells.length=cn∧ ∃cs,av x= .agg cs) (hcn:0<cn)
  (hX: ∀(a b c d:AV) (j:Nat) (ys:List AV) (x:α) (tl:List AV),ys[j]?=some (av x)→X.den ([a,b,c,d, .int .i64 j, .sl ys]++tl)=av x)
  (JO: ∀(a b c d:AV) (j:Nat) (ys:List AV) (x:α),ys[j]?=some (av x)→ ∀q∈ck,q.den [a,b,c,d, .int .i64 j, .sl ys])
  (h:Jj l p=some r) (hi: ∀i,Fz l p=some i→Cw Tryz.prog Cv fi [.sl (l.map av), .fn g9 caps] (.int .i64 i))
  (hf: ∀x b,p x=some b→Cw Tryz.prog Cv (1000000+g9) (av x::caps) (.bool b)):Den (gL fi cn X ck z) (.sl (r.map av)) [.sl (l.map av), .fn g9 caps]:=by
 obtain⟨hn,h⟩:=GV h;unfold Den gL;have F1: ∀x y:α,(av y).dj 0 (av x) true=av x:=by
  intro x y;obtain⟨cs,Bm⟩:=(hs x).2;have e1:=(hs x).1;have e2:=(hs y).1;have e3:(av x).cells=cs:=by rw [Bm];rfl
  have e4:(av y).cells.drop (0+cs.length)= []:=List.drop_eq_nil_of_le (by rw [e2,←e1,e3];omega);show AV.agg ((av y).cells.take 0++(av x).cells++(av y).cells.drop (0+(av x).cells.length))=av x;rw [e3,e4,List.append_nil,List.take_zero,List.nil_append,Bm]
 have BF: ∀(e:E) (ρ:List AV) (x:α),e.den ρ=av x→Cn.den ρ (.agg e cn):=fun e ρ x he=>by show∃cs,e.den ρ= .agg cs∧cs.length=cn;rw [he];obtain⟨cs,Bm⟩:=(hs x).2;have e1:=(hs x).1;rw [Bm]at e1;exact⟨cs,Bm,e1⟩
 rcases nJ 0 h with⟨h1,rfl⟩|⟨k0,r0,LA,h1,h2,rfl⟩
 ·refine Wm (r:= .int .i64 (-1)) (fun _=>hi _ (by unfold Fz;rw [show req (r.length≤9223372036854775806) (Em p r 0)=Em p r 0 from if_pos hn];exact h1)) ?_;exact Cb (by simp [BT]) (EI (t:=true) (by simp [BT]) (fun _=>IP (by simp)) (by simp))
 ·refine Wm (r:= .int .i64 k0) (fun _=>hi _ (by unfold Fz;rw [show req (l.length≤9223372036854775806) (Em p l 0)=Em p l 0 from if_pos hn,h1];simp)) ?_;have hw:IntKind.i64.wrap ((k0:Int)+1)=k0+1:=A8 (by omega) (by omega);refine Cb (by simp [BT]) (EI (t:=false) (by simp [BT];try omega) (by simp) fun _=>Cb (by simp [BT]) ?_);refine qY Zu (fun m vs=> ∃(j:Nat) (K zs r':List α),j+m=l.length∧vs= [.int .i64 K.length, .int .i64 j, .sl (zs.map av)]∧K.length<j∧zs.length=l.length∧zs.take K.length=K∧zs.drop j=l.drop j∧Jr p (l.drop j)=some r'∧l.take k0++r0=K++r') (m:=l.length-(k0+1))
   ⟨k0+1,l.take k0,l,r0,by omega, ?_,by simp;omega,rfl,by simp [Nat.min_eq_left (Nat.le_of_lt LA)],rfl,h2,rfl⟩ ?_
  ·simp [BT,hw,Nat.min_eq_left (Nat.le_of_lt LA)]
  rintro m vs ⟨j,K,zs,r',hj,rfl,hKj,LP,Pm,Pj,C7,AQ⟩;refine Cb (by simp) (Cb (by simp [BT]) ?_);by_cases Ak:j<l.length
  ·refine EI (t:=true) (by simp [BT,LP,Ak]) (fun _=> ?_) (by simp);obtain⟨b,r2,hb,CR,M8⟩:=zqv Ak C7;have UE:zs[j]?=some l[j]:=by
    have:=congrArg (fun L=>L[0]?) Pj;simpa [Ak]using this
   have FO:(zs.map av)[j]?=some (av l[j]):=by simp [UE]
   have JH:K.length<zs.length:=by omega
   have fR:IntKind.i64.wrap ((j:Int)+1)=j+1:=A8 (by omega) (by omega);have QR:IntKind.i64.wrap ((K.length:Int)+1)=K.length+1:=A8 (by omega) (by omega);refine zyy (K:=fun us=> ∃(K' zs':List α),us= [.int .i64 K'.length, .sl (zs'.map av)]∧K'.length<j+1∧zs'.length=l.length∧zs'.take K'.length=K'∧zs'.drop (j+1)=l.drop (j+1)∧l.take k0++r0=K'++r2) ?_ ?_
   ·rintro us ⟨K',zs',rfl,a1,a2,a3,a4,a5⟩;refine Cb (by simp [BT]) (NW ⟨m-1,by omega,j+1,K',zs',r2,by omega, ?_,a1,a2,a3,a4,CR,a5⟩);simp [BT,fR]
   ·intro J hJ;refine Cb (fun _=>⟨.i64,j,zs.length,by simp,by omega,by simp,by omega, ?_⟩) (rO (JO _ _ _ _ j (zs.map av) _ FO) (ZY (r:= .bool b) (fun _=>⟨g9,caps,by simp, ?_,by simp⟩) ?_))
    ·simp [AV.nth,UE,(hs l[j]).1]
    ·have e1:=hX (.sl (l.map av)) (.fn g9 caps) (.int .i64 k0) (.int .i64 K.length) j (zs.map av) l[j] [] FO;rw [List.append_nil]at e1;show Cw Tryz.prog Cv (1000000+g9) ([X.den [.sl (l.map av), .fn g9 caps, .int .i64 k0, .int .i64 K.length, .int .i64 j, .sl (zs.map av)]]++caps) (.bool b);rw [e1];exact hf _ _ hb
    ·refine Cb (by simp) ?_;have e2:=hX (.sl (l.map av)) (.fn g9 caps) (.int .i64 k0) (.int .i64 K.length) j (zs.map av) l[j] [.bool b] FO;cases b with
     |true=>refine EI (t:=false) (by simp) (by simp) fun _=>NW (hJ _ ⟨K,zs,by simp,by omega,LP,Pm, ?_,by rw [AQ,M8];simp⟩);have:=congrArg (List.drop 1) Pj;simpa [List.drop_drop]using this
     |false=>
      refine EI (t:=true) (by simp) (fun _=> ?_) (by simp);obtain⟨zk,Nh⟩: ∃zk,zs[K.length]?=some zk:=⟨zs[K.length],by simp [JH]⟩
      have e3:(E.idx (.var 5) (.var 3)).den ([AV.sl (l.map av), .fn g9 caps, .int .i64 k0, .int .i64 K.length, .int .i64 j, .sl (zs.map av)]++ [.bool false])=av zk:=by simp [AV.nth,Nh]
      refine Cb (fun _=>⟨.i64,K.length,zs.length,by simp,by omega,by simp,by omega, ?_⟩) (Cb (fun _=>BF _ _ _ e2) (Cb (by simp [BT]) (NW (hJ _ ⟨K++ [l[j]],zs.set K.length l[j], ?_,by simp;omega,by simpa using LP, ?_, ?_,by rw [AQ,M8];simp⟩))))
      ·simp [AV.nth,Nh,(hs zk).1]
      ·have e4:(E.set (.var 5) (.var 3) (.put (.idx (.var 5) (.var 3)) 0 X true)).den ([AV.sl (l.map av), .fn g9 caps, .int .i64 k0, .int .i64 K.length, .int .i64 j, .sl (zs.map av)]++ [.bool false])= .sl ((zs.set K.length l[j]).map av):=by
        show AV.da _ _ (AV.dj ((E.idx (.var 5) (.var 3)).den _) 0 (X.den _) true)=_;rw [e3,e2,F1];simp [AV.da,List.map_set]
       show EL.den _ (.cons (.bin .add (.var 3) (.int .i64 1)) (.cons (.set (.var 5) (.var 3) (.put (.idx (.var 5) (.var 3)) 0 X true)) .nil))=_;simp only [EL.den];have e5:(E.bin .add (.var 3) (.int .i64 1)).den ([AV.sl (l.map av), .fn g9 caps, .int .i64 k0, .int .i64 K.length, .int .i64 j, .sl (zs.map av)]++ [.bool false])= .int .i64 ((K++ [l[j]]).length:Int):=by simp [BT,QR]
       congr 1;congr 1
      ·rw [Ap,AH,List.take_add_one,List.take_set_of_le (Nat.le_refl _),Pm];simp [JH]
      ·rw [List.drop_set_of_lt (by omega)];have:=congrArg (List.drop 1) Pj;simpa [List.drop_drop]using this
  ·have dS:j=l.length:=by omega
   subst dS;refine EI (t:=false) (by simp [BT,LP]) (by simp) fun _=>aI ?_;have G6:r'= []:=by rw [List.drop_eq_nil_of_le (Nat.le_refl _)]at C7;exact(by simpa [Jr]using C7.symm)
   subst G6;rw [AQ,List.append_nil];have Nf:IntKind.i64.wrap ((zs.length:Int)-K.length)=zs.length-K.length:=A8 (by omega) (by omega);have d3:(E.var 3).den ([AV.sl (l.map av),AV.fn g9 caps]++ [AV.int .i64 (k0:Int)]++ [AV.int .i64 (K.length:Int),AV.sl (zs.map av)])= .int .i64 K.length:=by simp
   have d4:(E.var 4).den ([AV.sl (l.map av),AV.fn g9 caps]++ [AV.int .i64 (k0:Int)]++ [AV.int .i64 (K.length:Int),AV.sl (zs.map av)])= .sl (zs.map av):=by simp
   have dm:(E.bin .sub (.len (.var 4)) (.var 3)).den ([AV.sl (l.map av),AV.fn g9 caps]++ [AV.int .i64 (k0:Int)]++ [AV.int .i64 (K.length:Int),AV.sl (zs.map av)])= .int .i64 ((zs.length:Int)-K.length):=by simp [BT,Nf]
   have HA:Cn.den ([AV.sl (l.map av),AV.fn g9 caps]++ [AV.int .i64 (k0:Int)]++ [AV.int .i64 (K.length:Int),AV.sl (zs.map av)]) (.win (.var 4) (.var 3) (.len (.var 4))):=⟨.i64,K.length, .i64,zs.length,zs.length,d3,by simp,by rw [d4];simp,by omega,by omega,by omega⟩
   have dapp:(E.app (.win (.var 4) (.int .i64 (0)) (.var 3)) (.rep (.bin .sub (.len (.var 4)) (.var 3)) z)).den ([AV.sl (l.map av),AV.fn g9 caps]++ [AV.int .i64 (k0:Int)]++ [AV.int .i64 (K.length:Int),AV.sl (zs.map av)])= .sl ((zs.map av).take K.length++List.replicate (zs.length-K.length) (z.den ([AV.sl (l.map av),AV.fn g9 caps]++ [AV.int .i64 (k0:Int)]++ [AV.int .i64 (K.length:Int),AV.sl (zs.map av)]))):=by show AV.app (AV.win ((E.var 4).den _) (.int .i64 0) ((E.var 3).den _)) (AV.rep ((E.bin .sub (.len (.var 4)) (.var 3)).den _) _)=_;rw [d3,d4,dm];simp only [AV.win,AV.rep,AV.app,Int.toNat_natCast,Int.toNat_zero,List.drop_zero];congr 3;omega
   refine Cb (fun _=>HA) (Cb (fun _=>HA) (Cb (fun _=>fun hu=>by have:=dm.symm.trans hu;simp at this) (Cb (fun _=>⟨.i64,0, .i64,K.length,zs.length,rfl,d3, ?_,by omega,by omega,by omega⟩) (IP ?_))))
   ·refine(congrArg AV.len dapp).trans ?_;simp only [AV.len,Ap,List.length_take,List.length_map,List.length_replicate];congr 1;omega
   ·refine(congrArg (fun y=>AV.win y (.int .i64 0) (.int .i64 K.length)) dapp).trans ?_;simp only [AV.win,Int.toNat_natCast,Int.toNat_zero,List.drop_zero];rw [List.take_append_of_le_length (by simp;omega),List.take_take,Nat.min_self,←List.map_take,Pm]
abbrev RtS:Nat→List AV→AV→Prop:=Cw Tryz.prog Cv
@[reducible] def QY:Nat→Type
 |0=>Ab
 |1=>Az
 |2=>Aq
 |3=>Ad
 |4=>AI
 |5=>Ar
 |6=>AY
 |7=>AK
 |8=>Bv
 |9=>D4
 |10=>DQ
 |11=>Ax
 |12=>BR
 |13=>BU
 |14=>bL
 |15=>rZ
 |16=>wP
 |17=>zvF
 |18=>xJ
 |_+19=>Unit
@[reducible] def XY:Nat→List Ty
 |0=> [.s, .s, .b]
 |1=> [.l (.i .u8), .i .i64, .i .u64]
 |2=> [.s, .i .i64, .i .i64]
 |3=> [.s, .l .s, .l (.st 2)]
 |4=> [.l .s]
 |5=> [.s, .l (.st 3), .l (.i .i64), .l (.st 0)]
 |6=> [.s, .b]
 |7=> [.s, .l (.st 3), .l (.i .i64), .l (.st 0), .s, .b, .s, .b]
 |8=> [.i .i64, .l .s, .l .s]
 |9=> [.i .i64, .i .i64, .i .i64, .l .s, .l .s]
 |10=> [.i .i64, .i .i64, .i .i64, .i .i64, .i .i64, .l .s, .l .s]
 |11=> [.i .i64, .s, .s, .i .i64]
 |12=> [.s, .s, .b]
 |13=> [.s, .l (.st 11)]
 |14=> [.i .i64]
 |15=> [.i .i64, .i .i64]
 |16=> [.i .i64, .i .i64, .l (.st 14), .i .i64, .l (.st 15)]
 |17=> [.i .i64, .i .i64, .i .i64]
 |18=> [.i .i64, .i .i64]
 |_+19=> []
def LR: ∀n,QY n→AV
 |0,x=>rV x
 |1,x=>zF2 x
 |2,x=>xX x
 |3,x=>rS x
 |4,x=>zH8 x
 |5,x=>zFA x
 |6,x=>zHr x
 |7,x=>zGF x
 |8,x=>zEl x
 |9,x=>zzJ x
 |10,x=>zAI x
 |11,x=>yB x
 |12,x=>zHJ x
 |13,x=>zHc x
 |14,x=>uV x
 |15,x=>zyx x
 |16,x=>zE8 x
 |17,x=>zzk x
 |18,x=>zGV x
 |_+19,_=> .agg []
def iO: ∀n,QY n→HL QY (XY n)
 |0,x=>(x.af,x.a7,x.bh,())
 |1,x=>(x.az,x.cc,x.a8,())
 |2,x=>(x.ab,x.bm,x.aq,())
 |3,x=>(x.ab,x.ar,x.ah,())
 |4,x=>(x.aw,())
 |5,x=>(x.ab,x.aj,x.bp,x.ao,())
 |6,x=>(x.al,x.bf,())
 |7,x=>(x.ae.ab,x.ae.aj,x.ae.bp,x.ae.ao,x.cy.al,x.cy.bf,x.bj.al,x.bj.bf,())
 |8,x=>(x.ak,x.br.aw,x.bw.aw,())
 |9,x=>(x.a6,x.bd,x.ax.ak,x.ax.br.aw,x.ax.bw.aw,())
 |10,x=>(x.ak,x.bz,x.ax.a6,x.ax.bd,x.ax.ax.ak,x.ax.ax.br.aw,x.ax.ax.bw.aw,())
 |11,x=>(x.ak,x.af,x.a7,x.jm,())
 |12,x=>(x.af,x.a7,x.di,())
 |13,x=>(x.ay,x.cd,())
 |14,x=>(x.mz,())
 |15,x=>(x.nj,x.nt,())
 |16,x=>(x.o6,x.me.mz,x.l8,x.nj,x.mh,())
 |17,x=>(x.ak,x.ou,x.jm,())
 |18,x=>(x.o7,x.n8,())
 |_+19,_=>()
def uE: ∀n,HL QY (XY n)→QY n
 |0,x=>⟨x.1,x.2.1,x.2.2.1⟩
 |1,x=>⟨x.1,x.2.1,x.2.2.1⟩
 |2,x=>⟨x.1,x.2.1,x.2.2.1⟩
 |3,x=>⟨x.1,x.2.1,x.2.2.1⟩
 |4,x=>⟨x.1⟩
 |5,x=>⟨x.1,x.2.1,x.2.2.1,x.2.2.2.1⟩
 |6,x=>⟨x.1,x.2.1⟩
 |7,x=>⟨⟨x.1,x.2.1,x.2.2.1,x.2.2.2.1⟩,⟨x.2.2.2.2.1,x.2.2.2.2.2.1⟩,⟨x.2.2.2.2.2.2.1,x.2.2.2.2.2.2.2.1⟩⟩
 |8,x=>⟨x.1,⟨x.2.1⟩,⟨x.2.2.1⟩⟩
 |9,x=>⟨x.1,x.2.1,⟨x.2.2.1,⟨x.2.2.2.1⟩,⟨x.2.2.2.2.1⟩⟩⟩
 |10,x=>⟨x.1,x.2.1,⟨x.2.2.1,x.2.2.2.1,⟨x.2.2.2.2.1,⟨x.2.2.2.2.2.1⟩,⟨x.2.2.2.2.2.2.1⟩⟩⟩⟩
 |11,x=>⟨x.1,x.2.1,x.2.2.1,x.2.2.2.1⟩
 |12,x=>⟨x.1,x.2.1,x.2.2.1⟩
 |13,x=>⟨x.1,x.2.1⟩
 |14,x=>⟨x.1⟩
 |15,x=>⟨x.1,x.2.1⟩
 |16,x=>⟨x.1,⟨x.2.1⟩,x.2.2.1,x.2.2.2.1,x.2.2.2.2.1⟩
 |17,x=>⟨x.1,x.2.1,x.2.2.1⟩
 |18,x=>⟨x.1,x.2.1⟩
 |_+19,_=>()
theorem zGE: ∀n x,LR n x= .agg (Ir LR (XY n) (iO n x))
 |0,_=>rfl
 |1,_=>rfl
 |2,_=>rfl
 |3,_=>rfl
 |4,_=>rfl
 |5,_=>rfl
 |6,_=>rfl
 |7,_=>rfl
 |8,_=>rfl
 |9,_=>rfl
 |10,_=>rfl
 |11,_=>rfl
 |12,_=>rfl
 |13,_=>rfl
 |14,_=>rfl
 |15,_=>rfl
 |16,_=>rfl
 |17,_=>rfl
 |18,_=>rfl
 |_+19,_=>rfl
theorem zFk: ∀n h,iO n (uE n h)=h
 |0,_=>rfl
 |1,_=>rfl
 |2,_=>rfl
 |3,_=>rfl
 |4,_=>rfl
 |5,_=>rfl
 |6,_=>rfl
 |7,_=>rfl
 |8,_=>rfl
 |9,_=>rfl
 |10,_=>rfl
 |11,_=>rfl
 |12,_=>rfl
 |13,_=>rfl
 |14,_=>rfl
 |15,_=>rfl
 |16,_=>rfl
 |17,_=>rfl
 |18,_=>rfl
 |_+19,_=>rfl
@[reducible] def tab:I9:=⟨RtS,QY,LR,XY,iO,uE,zGE,zFk⟩
abbrev FS:=FN tab
noncomputable def gB (tb:List FS) (hs:List JM) (o:Option Tr) (ps:List PT) (r:RT) (xs:HP tab.car ps) (hp:IG tab ps xs):Option (Is tab.car r):=match o with
 |some t=>CB tb 100000 (QU r) t hs (XG ps xs hp) [] []
 |none=>none
theorem zHM {f:Nat} {ps:List PT} {r:RT} {φ:HP tab.car ps→Option (Is tab.car r)} (tb:List FS) (hs:List JM) (h: ∀xs hp,gB tb hs (UY Tryz.prog Cv f) ps r xs hp=φ xs) (hk: ∀xs y,X0 Tryz.prog Cv f (Gp tab ps xs) (GX tab r y)=true) (xs:HP tab.car ps) (y:Is tab.car r) (hp:IG tab ps xs) (e:φ xs=some y):tab.Rt f (Gp tab ps xs) (GX tab r y):=by
 rw [←h xs hp]at e;unfold gB at e;split at e
 ·rename_i t ht;refine Gc ht (hk xs y) ?_;unfold Den;rw [←uX ps xs hp];exact E1 tb 100000 (fa:= []) (fun _ h=>nomatch h) (fun _ h=>nomatch h) (fun v hv=>sP r hv) .nil e
 ·cases e
noncomputable def At (f:Nat) (ps:List PT) (r:RT) (φ:HP tab.car ps→Option (Is tab.car r)) (tb:List FS) (hs:List JM) (h: ∀xs hp,gB tb hs (UY Tryz.prog Cv f) ps r xs hp=φ xs:=by intro _ _;kernel_rfl) (hk: ∀xs y,X0 Tryz.prog Cv f (Gp tab ps xs) (GX tab r y)=true:=by intro _ _;kernel_rfl):FS:=
 ⟨f,ps,r,φ,fun xs y hp e=>zHM tb hs h hk xs y hp e,false,fun h=>by cases h⟩
noncomputable def Kf (d:FS) (h: ∀y,gD d.f (GX tab d.r y)=true):FS:=
 ⟨d.f,d.ps,d.r,d.φ,d.ok,true,fun _ xs y hx e=>zA3 (d.ok xs y hx e) (h y)⟩
noncomputable def Eh (f:Nat) (ps:List PT) (r:RT) (φ:HP tab.car ps→Option (Is tab.car r)) (ok: ∀xs y,IG tab ps xs→φ xs=some y→tab.Rt f (Gp tab ps xs) (GX tab r y)):FS:=⟨f,ps,r,φ,ok,false,fun h=>by cases h⟩
end Go.Proofs.YtbmbkgalkfmjdaaGreatDoor
end
section
namespace Go.Proofs.YtbmbkgalkfmjdaaGreatDoor
open Go.RowKit
theorem DP.rd {P:Program} {w:World} {ts:List TypeId} {ms:List PM} {lo:List Bool} {vs:List Value} {xs:List AV} {rf lf hs:List Nat} (h:DP P w ts ms lo vs xs rf lf hs):lo= []→(∀m∈ms,m= .ro)→Rd w vs xs rf∧hs= []:=by
 induction h with
 |nil=>intro _ _;exact⟨.nil,rfl⟩
 |lent h1 _ _ _ _=>intro Ci;subst Ci;cases h1
 | @cons t ts ms lo v vs x xs f h rf lf hs Ba _ ih=>
  intro Ci EW;subst Ci;obtain⟨h1,rfl⟩:=ih rfl fun m hm=>EW m (List.mem_of_mem_tail hm);have Hx:ms.headD .ro= .ro:=by
   cases ms with
   |nil=>rfl
   |cons m ms=>exact EW m (by simp)
  rw [Hx]at Ba;obtain⟨h2,h3⟩:Rd w [v] [x] f∧h= []:=Ba;subst h3;exact⟨by simpa using h2.app h1,rfl⟩
 |free h1 _ ih=>intro Ci EW;subst Ci;obtain⟨h2,rfl⟩:=ih rfl fun m hm=>EW m (List.mem_of_mem_tail hm);exact⟨by simpa using h1.app h2,rfl⟩
theorem D5.ko {P:Program} {w:World}: ∀{ts:List TypeId} {ms:List PM} {vs:List Value},vs.length=ts.length→(∀m∈ms,m= .ro)→D5 P w ts ms vs [] [] []
 | [],_,vs,_,_=> .nil
 |t::ts,ms, [],h,_=>by simp at h
 |t::ts,ms,v::vs,h,EW=>by
  refine .ro ?_ (D5.ko (by simpa using h) fun m hm=>EW m (List.mem_of_mem_tail hm));cases ms with
  |nil=>rfl
  |cons m ms=>exact EW m (by simp)
def iQ (P:Program) (sg:B0) (f np:Nat) (r:AV):Bool:=
 match P.funcs[f]?,sg f with
 |some fn,some s=>fn.body.isSome&& !(fn.name== "runtime.NumGoroutine")&&N5 P fn s r&&s.cx.all (fun m=>match m with| .ro=>true|_=>false)&&fn.params.size==np&&fn.nfree==0&&(s.ft.isEmpty&&s.lo.isEmpty)&&(match fn.resultTypes.toList with| [t]=> !Hd P t s.res|_=>false)
 |_,_=>false
theorem zyz {f:Nat} {xs:List AV} {r:AV} (hk:iQ Tryz.prog Cv f xs.length r=true) (hc: ∀(w:World) (vs:List Value) (rf:List Nat),F6.K w→Rd w vs xs rf→Calls Tryz.prog f vs.toArray w fun e w'=>Mod [] w w'∧ ∃v f1,e= .returned v∧Rd w' [v] [r] f1∧ ∀b∈f1,b∈rf∨w.heap.size≤b):Cw Tryz.prog Cv f xs r:=by
 unfold iQ at hk;split at hk
 ·rename_i fn s hf hs;simp only [Ae,Bool.not_eq_true',beq_iff_eq,AG]at hk;obtain⟨⟨⟨⟨⟨⟨⟨h1,h2⟩,h3⟩,h4⟩,h5⟩,h6⟩,EC⟩,h7⟩:=hk;obtain⟨EC,Ci⟩:s.ft= []∧s.lo= []:=by simpa using EC
  have Hx: ∀m∈s.cx,m= .ro:=fun m hm=>by
   have:=h4 m hm;split at this
   ·rfl
   ·cases this
  unfold Cw;rw [if_pos (S8 f s hs)];refine⟨s,hs,fn,hf,h1,h2,h3,by omega,by simp [EC],fun w vs rf lf Bh Ay hd _ Co Ev=> ?_⟩;obtain⟨hr,rfl⟩:=Ay.rd Ci Hx;refine(hc w vs rf Ev.2.1 hr).mono ?_;rintro e w' ⟨hm,v,f1,rfl,hv,hb⟩;refine⟨v,rfl,⟨⟨r, [],f1, [], [], [],rfl, ?_,D5.ko ?_ Hx,by simp,by simp,fun b Cd=>⟨by simp, ?_⟩⟩,hm⟩⟩
  ·unfold KQ;split at h7
   ·rename_i t ht;rw [ht];show E6 Tryz.prog w' t s.res v r f1 [];unfold E6;rw [if_neg (by rw [Bool.not_eq_true];simpa using h7)];exact⟨hv,rfl⟩
   ·cases h7
  ·rw [hr.len];simp [EC];omega
  ·rcases hb b (by simpa using Cd)with h|h
   ·exact .inl h
   ·exact .inr (.inr h)
 ·cases hk
theorem aU {f:Nat} {xs:List AV} {r:AV} (hk:iQ Tryz.prog Cv f xs.length r=true) (hc: ∀(w:World) (vs:List Value) (rf:List Nat),Rd w vs xs rf→Calls Tryz.prog f vs.toArray w fun e w'=>Mod [] w w'∧ ∃v f1,e= .returned v∧Rd w' [v] [r] f1∧ ∀b∈f1,b∈rf∨w.heap.size≤b):Cw Tryz.prog Cv f xs r:=
 zyz hk fun w vs rf _ hr=>hc w vs rf hr
theorem ME {w:World} {s:List UInt8} {vs:List Value} {xs:List AV} {f:List Nat} (h:Rd w vs (.str s::xs) f): ∃(b:ByteArray) (us:List Value),vs= .string b::us∧b.data.toList=s∧b.size≤9223372036854775807∧Rd w us xs f:=by
 cases h with
 |str a h=>exact⟨_,_,rfl,rfl,a,h⟩
theorem WM {w:World} {k:IntKind} {n:Int} {vs:List Value} {xs:List AV} {f:List Nat} (h:Rd w vs (.int k n::xs) f): ∃us:List Value,vs= .int k n::us∧E7 k n∧Rd w us xs f:=by
 cases h with
 |int a h=>exact⟨_,rfl,a,h⟩
theorem Mp {w:World} {vs:List Value} {f:List Nat} (h:Rd w vs [] f):vs= []∧f= []:=by cases h;exact⟨rfl,rfl⟩
end Go.Proofs.YtbmbkgalkfmjdaaGreatDoor
end
section
namespace Go.Proofs
open Go.Shelf
def Tryz.gp:Go.Shelf.Ren:=⟨fun|156=>199|165=>265|166=>266|169=>267|240=>294|241=>295|276=>317|277=>318|n=>n,fun|31=>23|9=>9|3=>3|4=>4|0=>0|20=>20|72=>280|76=>284|70=>278|37=>22|75=>283|127=>302|164=>314|5=>5|80=>241|n=>n,fun|n=>n⟩
theorem Tryz.j4:Go.Proofs.Lays.n156 Tryz.prog Tryz.gp:={
 mixed:=by kernel_rfl
 f156:=Tryz.func199.trans (congrArg some (by kernel_rfl))
 f165:=Tryz.func265.trans (congrArg some (by kernel_rfl))
 f166:=Tryz.func266.trans (congrArg some (by kernel_rfl))
 f169:=Tryz.func267.trans (congrArg some (by kernel_rfl))
 f240:=Tryz.func294.trans (congrArg some (by kernel_rfl))
 f241:=Tryz.func295.trans (congrArg some (by kernel_rfl))
 f276:=Tryz.func317.trans (congrArg some (by kernel_rfl))
 f277:=Tryz.func318.trans (congrArg some (by kernel_rfl))
 t0:=Tryz.underlying0
 a0:=Tryz.isAgg0
 z0:=Tryz.sizeOf0
 v0:=Tryz.zeroValue0
 t3:=Tryz.underlying3
 a3:=Tryz.isAgg3
 z3:=Tryz.sizeOf3
 v3:=Tryz.zeroValue3
 t4:=Tryz.underlying4
 a4:=Tryz.isAgg4
 z4:=Tryz.sizeOf4
 v4:=Tryz.zeroValue4
 t9:=Tryz.underlying9
 a9:=Tryz.isAgg9
 z9:=Tryz.sizeOf9
 v9:=Tryz.zeroValue9
 t20:=Tryz.underlying20
 a20:=Tryz.isAgg20
 z20:=Tryz.sizeOf20
 v20:=Tryz.zeroValue20
 t31:=Tryz.underlying23
 a31:=Tryz.isAgg23
 z31:=Tryz.sizeOf23
 v31:=Tryz.zeroValue23
 t37:=Tryz.underlying22
 a37:=Tryz.isAgg22
 z37:=Tryz.sizeOf22
 v37:=Tryz.zeroValue22
 t70:=Tryz.underlying278
 a70:=Tryz.isAgg278
 z70:=Tryz.sizeOf278
 v70:=Tryz.zeroValue278
 t72:=Tryz.underlying280
 a72:=Tryz.isAgg280
 z72:=Tryz.sizeOf280
 v72:=Tryz.zeroValue280
 t75:=Tryz.underlying283
 a75:=Tryz.isAgg283
 z75:=Tryz.sizeOf283
 v75:=Tryz.zeroValue283
 t76:=Tryz.underlying284
 a76:=Tryz.isAgg284
 z76:=Tryz.sizeOf284
 v76:=Tryz.zeroValue284
 t127:=Tryz.underlying302
 a127:=Tryz.isAgg302
 z127:=Tryz.sizeOf302
 v127:=Tryz.zeroValue302
 t164:=Tryz.underlying314
 a164:=Tryz.isAgg314
 z164:=Tryz.sizeOf314
 v164:=Tryz.zeroValue314}
theorem Tryz.dw:Builder.Extra Tryz.prog Tryz.gp:={
 sizeBuilder:=by kernel_rfl
 liesBuilder:=by kernel_rfl
 t5:=Tryz.underlying5
 a5:=Tryz.isAgg5
 z5:=Tryz.sizeOf5
 v5:=Tryz.zeroValue5
 infoByte:=by kernel_rfl
 cellsByte:=by kernel_rfl
 sizeByte:=by kernel_rfl
 neB5:=by decide}
open Go.RowKit in
theorem Tryz.strings_Join_none (a:Option Addr) (c:Nat) (sep:ByteArray) (w:World):
  Calls Tryz.prog 199 #[.slice a 0 c, .string sep] w fun e w'=>e= .returned (.string ⟨#[]⟩)∧w'=w:=Any.strings_Join_none Tryz.j4 Tryz.dw a c sep w
open Go.RowKit in
theorem Tryz.strings_Join (bk o c:Nat) (xs:List ByteArray) (sep:ByteArray) (w:World) (OA: ∀(j:Nat) x,xs[j]?=some x→w.cell? ⟨bk,o+j,none⟩=some (.string x)) (QD:bk<w.heap.size) (hN:xs.length≤140737488355328) (JN:xs.length≤c) (hlen:(Lib.join (xs.map (·.data.toList)) sep.data.toList).length≤140737488355328):
  Calls Tryz.prog 199 #[.slice (some ⟨bk,o,none⟩) xs.length c, .string sep] w fun e w'=>e= .returned (.string ⟨(Lib.join (xs.map (·.data.toList)) sep.data.toList).toArray⟩)∧Below w.heap.size w w':=Any.strings_Join Tryz.j4 Tryz.dw bk o c xs sep w OA QD hN JN hlen
def Tryz.im:Go.Shelf.Ren:=⟨fun|171=>283|243=>302|246=>321|283=>338|284=>339|285=>340|286=>341|129=>355|317=>354|318=>356|319=>357|320=>358|337=>364|338=>365|n=>n,fun|3=>3|9=>9|2=>2|4=>4|171=>323|0=>0|53=>103|37=>22|5=>5|173=>326|212=>341|51=>331|20=>20|213=>342|46=>243|232=>358|233=>359|n=>n,fun|17=>1|18=>6|19=>7|n=>n⟩
theorem Tryz.ki:Go.Proofs.LaysM.n171 Tryz.prog Tryz.im:={
 mixed:=by kernel_rfl
 f129:=Tryz.func355.trans (congrArg some (by kernel_rfl))
 f171:=Tryz.func283.trans (congrArg some (by kernel_rfl))
 f243:=Tryz.func302.trans (congrArg some (by kernel_rfl))
 f246:=Tryz.func321.trans (congrArg some (by kernel_rfl))
 f283:=Tryz.func338.trans (congrArg some (by kernel_rfl))
 f284:=Tryz.func339.trans (congrArg some (by kernel_rfl))
 f285:=Tryz.func340.trans (congrArg some (by kernel_rfl))
 f286:=Tryz.func341.trans (congrArg some (by kernel_rfl))
 f317:=Tryz.func354.trans (congrArg some (by kernel_rfl))
 f318:=Tryz.func356.trans (congrArg some (by kernel_rfl))
 f319:=Tryz.func357.trans (congrArg some (by kernel_rfl))
 f320:=Tryz.func358.trans (congrArg some (by kernel_rfl))
 f337:=Tryz.func364.trans (congrArg some (by kernel_rfl))
 f338:=Tryz.func365.trans (congrArg some (by kernel_rfl))
 t0:=Tryz.underlying0
 a0:=Tryz.isAgg0
 z0:=Tryz.sizeOf0
 v0:=Tryz.zeroValue0
 t2:=Tryz.underlying2
 a2:=Tryz.isAgg2
 z2:=Tryz.sizeOf2
 v2:=Tryz.zeroValue2
 t3:=Tryz.underlying3
 a3:=Tryz.isAgg3
 z3:=Tryz.sizeOf3
 v3:=Tryz.zeroValue3
 t4:=Tryz.underlying4
 a4:=Tryz.isAgg4
 z4:=Tryz.sizeOf4
 v4:=Tryz.zeroValue4
 t5:=Tryz.underlying5
 a5:=Tryz.isAgg5
 z5:=Tryz.sizeOf5
 v5:=Tryz.zeroValue5
 t9:=Tryz.underlying9
 a9:=Tryz.isAgg9
 z9:=Tryz.sizeOf9
 v9:=Tryz.zeroValue9
 t20:=Tryz.underlying20
 a20:=Tryz.isAgg20
 z20:=Tryz.sizeOf20
 v20:=Tryz.zeroValue20
 t37:=Tryz.underlying22
 a37:=Tryz.isAgg22
 z37:=Tryz.sizeOf22
 v37:=Tryz.zeroValue22
 t46:=Tryz.underlying243
 a46:=Tryz.isAgg243
 z46:=Tryz.sizeOf243
 v46:=Tryz.zeroValue243
 t51:=Tryz.underlying331
 a51:=Tryz.isAgg331
 z51:=Tryz.sizeOf331
 v51:=Tryz.zeroValue331
 t53:=Tryz.underlying103
 a53:=Tryz.isAgg103
 z53:=Tryz.sizeOf103
 v53:=Tryz.zeroValue103
 t171:=Tryz.underlying323
 a171:=Tryz.isAgg323
 z171:=Tryz.sizeOf323
 v171:=Tryz.zeroValue323
 t173:=Tryz.underlying326
 a173:=Tryz.isAgg326
 z173:=Tryz.sizeOf326
 v173:=Tryz.zeroValue326
 t212:=Tryz.underlying341
 a212:=Tryz.isAgg341
 z212:=Tryz.sizeOf341
 v212:=Tryz.zeroValue341
 t213:=Tryz.underlying342
 a213:=Tryz.isAgg342
 z213:=Tryz.sizeOf342
 t232:=Tryz.underlying358
 a232:=Tryz.isAgg358
 z232:=Tryz.sizeOf358
 v232:=Tryz.zeroValue358
 t233:=Tryz.underlying359
 a233:=Tryz.isAgg359
 z233:=Tryz.sizeOf359
 v233:=Tryz.zeroValue359
 g17:=by kernel_rfl
 g18:=by kernel_rfl
 g19:=by kernel_rfl
 i0:=by kernel_rfl
 i2:=by kernel_rfl
 i3:=by kernel_rfl
 i4:=by kernel_rfl
 i5:=by kernel_rfl
 i9:=by kernel_rfl
 i20:=by kernel_rfl
 i37:=by kernel_rfl
 i46:=by kernel_rfl
 i51:=by kernel_rfl
 i53:=by kernel_rfl
 i171:=by kernel_rfl
 i173:=by kernel_rfl
 i212:=by kernel_rfl
 i232:=by kernel_rfl
 i233:=by kernel_rfl
 m17:=by kernel_rfl
 m18:=by kernel_rfl
 m19:=by kernel_rfl}
open Go.RowKit Go.Sort Go.Lib in
theorem Tryz.strconv_Itoa (n:Int) (h0: -9223372036854775808≤n) (h1:n≤9223372036854775807) (w:World) (fJ:Lib.TabIs Tryz.prog w "internal/strconv.uint64pow10" .u64 Lib.pow10Tab):
  Calls Tryz.prog 283 #[.int .i64 n] w fun e w'=>e= .returned (.string ⟨(Lib.itoa n).toArray⟩)∧ ∃k os,w'=grow (w.drewN k) os:=Any.strconv_Itoa Tryz.ki n h0 h1 w fJ
def Tryz.iw:Go.Shelf.Ren:=⟨fun|172=>320|244=>336|245=>337|247=>349|279=>350|280=>351|281=>352|282=>353|287=>361|316=>362|171=>283|205=>363|321=>366|322=>367|243=>302|246=>321|283=>338|284=>339|285=>340|286=>341|129=>355|317=>354|318=>356|319=>357|320=>358|337=>364|338=>365|n=>n,fun|9=>9|3=>3|75=>283|76=>284|4=>4|5=>5|167=>334|37=>22|0=>0|85=>335|2=>2|168=>337|53=>103|175=>348|46=>243|210=>351|127=>302|145=>357|143=>355|21=>21|171=>323|173=>326|212=>341|51=>331|20=>20|213=>342|232=>358|233=>359|80=>241|n=>n,fun|15=>4|16=>5|17=>1|18=>6|19=>7|n=>n⟩
theorem Tryz.gy:Go.Proofs.LaysC.n172 Tryz.prog Tryz.iw:={
 mixed:=by kernel_rfl
 f129:=Tryz.func355.trans (congrArg some (by kernel_rfl))
 f171:=Tryz.func283.trans (congrArg some (by kernel_rfl))
 f172:=Tryz.func320.trans (congrArg some (by kernel_rfl))
 f205:=Tryz.func363.trans (congrArg some (by kernel_rfl))
 f243:=Tryz.func302.trans (congrArg some (by kernel_rfl))
 f244:=Tryz.func336.trans (congrArg some (by kernel_rfl))
 f245:=Tryz.func337.trans (congrArg some (by kernel_rfl))
 f246:=Tryz.func321.trans (congrArg some (by kernel_rfl))
 f247:=Tryz.func349.trans (congrArg some (by kernel_rfl))
 f279:=Tryz.func350.trans (congrArg some (by kernel_rfl))
 f280:=Tryz.func351.trans (congrArg some (by kernel_rfl))
 f281:=Tryz.func352.trans (congrArg some (by kernel_rfl))
 f282:=Tryz.func353.trans (congrArg some (by kernel_rfl))
 f283:=Tryz.func338.trans (congrArg some (by kernel_rfl))
 f284:=Tryz.func339.trans (congrArg some (by kernel_rfl))
 f285:=Tryz.func340.trans (congrArg some (by kernel_rfl))
 f286:=Tryz.func341.trans (congrArg some (by kernel_rfl))
 f287:=Tryz.func361.trans (congrArg some (by kernel_rfl))
 f316:=Tryz.func362.trans (congrArg some (by kernel_rfl))
 f317:=Tryz.func354.trans (congrArg some (by kernel_rfl))
 f318:=Tryz.func356.trans (congrArg some (by kernel_rfl))
 f319:=Tryz.func357.trans (congrArg some (by kernel_rfl))
 f320:=Tryz.func358.trans (congrArg some (by kernel_rfl))
 f321:=Tryz.func366.trans (congrArg some (by kernel_rfl))
 f322:=Tryz.func367.trans (congrArg some (by kernel_rfl))
 f337:=Tryz.func364.trans (congrArg some (by kernel_rfl))
 f338:=Tryz.func365.trans (congrArg some (by kernel_rfl))
 t0:=Tryz.underlying0
 a0:=Tryz.isAgg0
 z0:=Tryz.sizeOf0
 v0:=Tryz.zeroValue0
 t2:=Tryz.underlying2
 a2:=Tryz.isAgg2
 z2:=Tryz.sizeOf2
 v2:=Tryz.zeroValue2
 t3:=Tryz.underlying3
 a3:=Tryz.isAgg3
 z3:=Tryz.sizeOf3
 v3:=Tryz.zeroValue3
 t4:=Tryz.underlying4
 a4:=Tryz.isAgg4
 z4:=Tryz.sizeOf4
 v4:=Tryz.zeroValue4
 t5:=Tryz.underlying5
 a5:=Tryz.isAgg5
 z5:=Tryz.sizeOf5
 v5:=Tryz.zeroValue5
 t9:=Tryz.underlying9
 a9:=Tryz.isAgg9
 z9:=Tryz.sizeOf9
 v9:=Tryz.zeroValue9
 t20:=Tryz.underlying20
 a20:=Tryz.isAgg20
 z20:=Tryz.sizeOf20
 v20:=Tryz.zeroValue20
 t21:=Tryz.underlying21
 a21:=Tryz.isAgg21
 z21:=Tryz.sizeOf21
 v21:=Tryz.zeroValue21
 t37:=Tryz.underlying22
 a37:=Tryz.isAgg22
 z37:=Tryz.sizeOf22
 v37:=Tryz.zeroValue22
 t46:=Tryz.underlying243
 a46:=Tryz.isAgg243
 z46:=Tryz.sizeOf243
 v46:=Tryz.zeroValue243
 t51:=Tryz.underlying331
 a51:=Tryz.isAgg331
 z51:=Tryz.sizeOf331
 v51:=Tryz.zeroValue331
 t53:=Tryz.underlying103
 a53:=Tryz.isAgg103
 z53:=Tryz.sizeOf103
 v53:=Tryz.zeroValue103
 t75:=Tryz.underlying283
 a75:=Tryz.isAgg283
 z75:=Tryz.sizeOf283
 v75:=Tryz.zeroValue283
 t76:=Tryz.underlying284
 a76:=Tryz.isAgg284
 z76:=Tryz.sizeOf284
 v76:=Tryz.zeroValue284
 t85:=Tryz.underlying335
 a85:=Tryz.isAgg335
 z85:=Tryz.sizeOf335
 v85:=Tryz.zeroValue335
 t127:=Tryz.underlying302
 a127:=Tryz.isAgg302
 z127:=Tryz.sizeOf302
 v127:=Tryz.zeroValue302
 t143:=Tryz.underlying355
 a143:=Tryz.isAgg355
 z143:=Tryz.sizeOf355
 v143:=Tryz.zeroValue355
 t145:=Tryz.underlying357
 a145:=Tryz.isAgg357
 z145:=Tryz.sizeOf357
 v145:=Tryz.zeroValue357
 t167:=Tryz.underlying334
 a167:=Tryz.isAgg334
 z167:=Tryz.sizeOf334
 v167:=Tryz.zeroValue334
 t168:=Tryz.underlying337
 a168:=Tryz.isAgg337
 z168:=Tryz.sizeOf337
 v168:=Tryz.zeroValue337
 t171:=Tryz.underlying323
 a171:=Tryz.isAgg323
 z171:=Tryz.sizeOf323
 v171:=Tryz.zeroValue323
 t173:=Tryz.underlying326
 a173:=Tryz.isAgg326
 z173:=Tryz.sizeOf326
 v173:=Tryz.zeroValue326
 t175:=Tryz.underlying348
 a175:=Tryz.isAgg348
 z175:=Tryz.sizeOf348
 v175:=Tryz.zeroValue348
 t210:=Tryz.underlying351
 a210:=Tryz.isAgg351
 z210:=Tryz.sizeOf351
 v210:=Tryz.zeroValue351
 t212:=Tryz.underlying341
 a212:=Tryz.isAgg341
 z212:=Tryz.sizeOf341
 v212:=Tryz.zeroValue341
 t213:=Tryz.underlying342
 a213:=Tryz.isAgg342
 z213:=Tryz.sizeOf342
 t232:=Tryz.underlying358
 a232:=Tryz.isAgg358
 z232:=Tryz.sizeOf358
 v232:=Tryz.zeroValue358
 t233:=Tryz.underlying359
 a233:=Tryz.isAgg359
 z233:=Tryz.sizeOf359
 v233:=Tryz.zeroValue359
 g15:=by kernel_rfl
 g16:=by kernel_rfl
 g17:=by kernel_rfl
 g18:=by kernel_rfl
 g19:=by kernel_rfl
 t80:=Tryz.underlying241
 a80:=Tryz.isAgg241
 z80:=Tryz.sizeOf241
 v80:=Tryz.zeroValue241
 i0:=by kernel_rfl
 i2:=by kernel_rfl
 i3:=by kernel_rfl
 i4:=by kernel_rfl
 i5:=by kernel_rfl
 i9:=by kernel_rfl
 i20:=by kernel_rfl
 i21:=by kernel_rfl
 i37:=by kernel_rfl
 i46:=by kernel_rfl
 i51:=by kernel_rfl
 i53:=by kernel_rfl
 i75:=by kernel_rfl
 i76:=by kernel_rfl
 i80:=by kernel_rfl
 i85:=by kernel_rfl
 i127:=by kernel_rfl
 i143:=by kernel_rfl
 i145:=by kernel_rfl
 i167:=by kernel_rfl
 i168:=by kernel_rfl
 i171:=by kernel_rfl
 i173:=by kernel_rfl
 i175:=by kernel_rfl
 i210:=by kernel_rfl
 i212:=by kernel_rfl
 i232:=by kernel_rfl
 i233:=by kernel_rfl
 m15:=by kernel_rfl
 m16:=by kernel_rfl
 m17:=by kernel_rfl
 m18:=by kernel_rfl
 m19:=by kernel_rfl
 c0:=by kernel_rfl
 c2:=by kernel_rfl
 c3:=by kernel_rfl
 c4:=by kernel_rfl
 c5:=by kernel_rfl
 c9:=by kernel_rfl
 c20:=by kernel_rfl
 c21:=by kernel_rfl
 c37:=by kernel_rfl
 c46:=by kernel_rfl
 c51:=by kernel_rfl
 c53:=by kernel_rfl
 c75:=by kernel_rfl
 c76:=by kernel_rfl
 c80:=by kernel_rfl
 c85:=by kernel_rfl
 c127:=by kernel_rfl
 c143:=by kernel_rfl
 c145:=by kernel_rfl
 c167:=by kernel_rfl
 c168:=by kernel_rfl
 c171:=by kernel_rfl
 c173:=by kernel_rfl
 c175:=by kernel_rfl
 c210:=by kernel_rfl
 c212:=by kernel_rfl
 c213:=by kernel_rfl
 c232:=by kernel_rfl
 c233:=by kernel_rfl}
open Go.RowKit in
theorem Tryz.strconv_Atoi_ok (s:ByteArray) (Eu:s.size≤9223372036854775806) (v:Int) (h:Lib.atoiAll s.data.toList= .ok v) (w:World):
  Calls Tryz.prog 320 #[.string s] w fun e w'=>e= .returned (.tuple #[.int .i64 v, .nilIface])∧(w'=w∨ ∃t,w'=Lib.bytesWorld w 5 t):=Any.strconv_Atoi_ok Tryz.gy s Eu v h w
def Tryz.jb:Go.Shelf.Ren:=⟨fun|217=>319|266=>335|n=>n,fun|9=>9|5=>5|3=>3|n=>n,fun|n=>n⟩
theorem Tryz.l5:Go.Proofs.Lays.n217 Tryz.prog Tryz.jb:={
 mixed:=by kernel_rfl
 f217:=Tryz.func319.trans (congrArg some (by kernel_rfl))
 f266:=Tryz.func335.trans (congrArg some (by kernel_rfl))
 t3:=Tryz.underlying3
 a3:=Tryz.isAgg3
 z3:=Tryz.sizeOf3
 v3:=Tryz.zeroValue3
 t5:=Tryz.underlying5
 a5:=Tryz.isAgg5
 z5:=Tryz.sizeOf5
 v5:=Tryz.zeroValue5
 t9:=Tryz.underlying9
 a9:=Tryz.isAgg9
 z9:=Tryz.sizeOf9
 v9:=Tryz.zeroValue9}
open Go.RowKit Go.Lib in
theorem Tryz.stringslite_IndexByte (s:ByteArray) (c:Int) (w:World):
  Calls Tryz.prog 319 #[.string s, .int .u8 c] w fun e w'=>e= .returned (.int .i64 (Lib.indexByte s.data.toList c.toNat.toUInt8))∧w'=w:=Any.stringslite_IndexByte Tryz.l5 s c w
def Tryz.je:Go.Shelf.Ren:=⟨fun|219=>313|217=>319|225=>329|224=>330|267=>331|266=>335|314=>347|n=>n,fun|9=>9|3=>3|4=>4|5=>5|46=>243|146=>332|51=>331|n=>n,fun|1=>0|n=>n⟩
theorem Tryz.lz:Go.Proofs.Lays.n219 Tryz.prog Tryz.je:={
 mixed:=by kernel_rfl
 f217:=Tryz.func319.trans (congrArg some (by kernel_rfl))
 f219:=Tryz.func313.trans (congrArg some (by kernel_rfl))
 f224:=Tryz.func330.trans (congrArg some (by kernel_rfl))
 f225:=Tryz.func329.trans (congrArg some (by kernel_rfl))
 f266:=Tryz.func335.trans (congrArg some (by kernel_rfl))
 f267:=Tryz.func331.trans (congrArg some (by kernel_rfl))
 f314:=Tryz.func347.trans (congrArg some (by kernel_rfl))
 t3:=Tryz.underlying3
 a3:=Tryz.isAgg3
 z3:=Tryz.sizeOf3
 v3:=Tryz.zeroValue3
 t4:=Tryz.underlying4
 a4:=Tryz.isAgg4
 z4:=Tryz.sizeOf4
 v4:=Tryz.zeroValue4
 t5:=Tryz.underlying5
 a5:=Tryz.isAgg5
 z5:=Tryz.sizeOf5
 v5:=Tryz.zeroValue5
 t9:=Tryz.underlying9
 a9:=Tryz.isAgg9
 z9:=Tryz.sizeOf9
 v9:=Tryz.zeroValue9
 t46:=Tryz.underlying243
 a46:=Tryz.isAgg243
 z46:=Tryz.sizeOf243
 v46:=Tryz.zeroValue243
 t51:=Tryz.underlying331
 a51:=Tryz.isAgg331
 z51:=Tryz.sizeOf331
 v51:=Tryz.zeroValue331
 t146:=Tryz.underlying332
 a146:=Tryz.isAgg332
 z146:=Tryz.sizeOf332
 v146:=Tryz.zeroValue332
 g1:=by kernel_rfl}
open Go.RowKit Go.Lib in
theorem Tryz.stringslite_Index_one (s:ByteArray) (c:UInt8) (w:World):
  Calls Tryz.prog 313 #[.string s, .string ⟨#[c]⟩] w fun e w'=>e= .returned (.int .i64 (Lib.indexByte s.data.toList c))∧w'=w:=Any.stringslite_Index_one Tryz.lz s c w
def Tryz.jh:Go.Shelf.Ren:=⟨fun|138=>315|195=>332|218=>334|143=>316|219=>313|217=>319|225=>329|224=>330|267=>331|266=>335|314=>347|n=>n,fun|9=>9|3=>3|4=>4|5=>5|0=>0|46=>243|146=>332|51=>331|n=>n,fun|1=>0|n=>n⟩
theorem Tryz.ma:Go.Proofs.Lays.n138 Tryz.prog Tryz.jh:={
 mixed:=by kernel_rfl
 f138:=Tryz.func315.trans (congrArg some (by kernel_rfl))
 f143:=Tryz.func316.trans (congrArg some (by kernel_rfl))
 f195:=Tryz.func332.trans (congrArg some (by kernel_rfl))
 f217:=Tryz.func319.trans (congrArg some (by kernel_rfl))
 f218:=Tryz.func334.trans (congrArg some (by kernel_rfl))
 f219:=Tryz.func313.trans (congrArg some (by kernel_rfl))
 f224:=Tryz.func330.trans (congrArg some (by kernel_rfl))
 f225:=Tryz.func329.trans (congrArg some (by kernel_rfl))
 f266:=Tryz.func335.trans (congrArg some (by kernel_rfl))
 f267:=Tryz.func331.trans (congrArg some (by kernel_rfl))
 f314:=Tryz.func347.trans (congrArg some (by kernel_rfl))
 t0:=Tryz.underlying0
 a0:=Tryz.isAgg0
 z0:=Tryz.sizeOf0
 v0:=Tryz.zeroValue0
 t3:=Tryz.underlying3
 a3:=Tryz.isAgg3
 z3:=Tryz.sizeOf3
 v3:=Tryz.zeroValue3
 t4:=Tryz.underlying4
 a4:=Tryz.isAgg4
 z4:=Tryz.sizeOf4
 v4:=Tryz.zeroValue4
 t5:=Tryz.underlying5
 a5:=Tryz.isAgg5
 z5:=Tryz.sizeOf5
 v5:=Tryz.zeroValue5
 t9:=Tryz.underlying9
 a9:=Tryz.isAgg9
 z9:=Tryz.sizeOf9
 v9:=Tryz.zeroValue9
 t46:=Tryz.underlying243
 a46:=Tryz.isAgg243
 z46:=Tryz.sizeOf243
 v46:=Tryz.zeroValue243
 t51:=Tryz.underlying331
 a51:=Tryz.isAgg331
 z51:=Tryz.sizeOf331
 v51:=Tryz.zeroValue331
 t146:=Tryz.underlying332
 a146:=Tryz.isAgg332
 z146:=Tryz.sizeOf332
 v146:=Tryz.zeroValue332
 g1:=by kernel_rfl}
open Go.RowKit Go.Lib in
theorem Tryz.strings_Count_one (s:ByteArray) (c:UInt8) (w:World):
  Calls Tryz.prog 315 #[.string s, .string ⟨#[c]⟩] w fun e w'=>e= .returned (.int .i64 (Lib.countByte s.data.toList c))∧w'=w:=Any.strings_Count_one Tryz.ma s c w
end Go.Proofs
end
section
namespace Go.Proofs.YtbmbkgalkfmjdaaGreatDoor
open Go.RowKit
set_option maxRecDepth 100000
theorem mX: ∀(l:List UInt8) (c:UInt8), -1≤Lib.indexByte l c∧Lib.indexByte l c<l.length∨Lib.indexByte l c= -1
 | [],_=> .inr rfl
 |b::l,c=>by
  unfold Lib.indexByte;rcases mX l c with h|h
  ·split
   ·left;simp
   ·split
    ·exact .inr rfl
    ·left;rw [An];omega
  ·rw [h];split
   ·left;simp
   ·right;rfl
theorem qG {n:Int} (h1: -9223372036854775808≤n) (h2:n≤9223372036854775807):E7 .i64 n:=A8 h1 h2
theorem xP {b:ByteArray} {c:UInt8} (h:b.data.toList= [c]):b=⟨#[c]⟩:=by
 cases b with
 |mk d=>cases d with
  |mk l=>simp at h;rw [h]
def X2 (s:List UInt8) (c:Int):Option Int:=some (Lib.indexByte s c.toNat.toUInt8)
theorem zhR (a0:List UInt8) (a1 r:Int) (h:X2 a0 a1=some r):Cw Tryz.prog Cv 319 [.str a0, .int .u8 a1] (.int .i64 r):=aU (by kernel_rfl) fun w vs rf hr=>by
 obtain⟨b,us,rfl,rfl,hb,hr⟩:=ME hr;obtain⟨us1,rfl,_,hr⟩:=WM hr;obtain⟨rfl,rfl⟩:=Mp hr;refine(Tryz.stringslite_IndexByte b a1 w).mono ?_;rintro e w' ⟨rfl,rfl⟩;cases h;have hl:b.data.toList.length≤9223372036854775807:=by rw [Array.length_toList];exact hb
 exact⟨Mod.refl [] _,_, [],rfl, .int (by rcases mX b.data.toList a1.toNat.toUInt8 with h|h<;>exact qG (by omega) (by omega)) .nil,by simp⟩
def Ri (s sub:List UInt8):Option Int:=match sub with| [c]=>some (Lib.indexByte s c)|_=>none
theorem zjk (a0 a1:List UInt8) (r:Int) (h:Ri a0 a1=some r):Cw Tryz.prog Cv 313 [.str a0, .str a1] (.int .i64 r):=aU (by kernel_rfl) fun w vs rf hr=>by
 obtain⟨b,us,rfl,rfl,hb,hr⟩:=ME hr;obtain⟨b1,us1,rfl,h1,_,hr⟩:=ME hr;obtain⟨rfl,rfl⟩:=Mp hr
 match a1,h,h1 with
 | [c],h,h1=>
  have:=xP h1;subst this;refine(Tryz.stringslite_Index_one b c w).mono ?_;rintro e w' ⟨rfl,rfl⟩;cases h;have hl:b.data.toList.length≤9223372036854775807:=by rw [Array.length_toList];exact hb
  exact⟨Mod.refl [] _,_, [],rfl, .int (by rcases mX b.data.toList c with h|h<;>exact qG (by omega) (by omega)) .nil,by simp⟩
 | [],h,_=>cases h
 |_::_::_,h,_=>cases h
def YU (s sub:List UInt8):Option Int:=match sub with| [c]=>some (Lib.countByte s c:Int)|_=>none
theorem zsY (a0 a1:List UInt8) (r:Int) (h:YU a0 a1=some r):Cw Tryz.prog Cv 315 [.str a0, .str a1] (.int .i64 r):=aU (by kernel_rfl) fun w vs rf hr=>by
 obtain⟨b,us,rfl,rfl,hb,hr⟩:=ME hr;obtain⟨b1,us1,rfl,h1,_,hr⟩:=ME hr;obtain⟨rfl,rfl⟩:=Mp hr
 match a1,h,h1 with
 | [c],h,h1=>
  have:=xP h1;subst this;refine(Tryz.strings_Count_one b c w).mono ?_;rintro e w' ⟨rfl,rfl⟩;cases h;have hl:b.data.toList.length≤9223372036854775807:=by rw [Array.length_toList];exact hb
  have:Lib.countByte b.data.toList c≤b.data.toList.length:=List.count_le_length;exact⟨Mod.refl [] _,_, [],rfl, .int (qG (by omega) (by omega)) .nil,by simp⟩
 | [],h,_=>cases h
 |_::_::_,h,_=>cases h
def lA (_:List UInt8) (_:Int):Option (List (List UInt8)):=none
theorem zpQ (a0:List UInt8) (a1:Int) (r:List (List UInt8)) (h:lA a0 a1=some r):Cw Tryz.prog Cv 314 [.str a0, .int .i64 a1] (.sl (r.map IX)):=by cases h
noncomputable def Y9 (xs:List (List UInt8)) (sep:List UInt8):Option (List UInt8):=req (xs.length≤140737488355328∧(Lib.join xs sep).length≤140737488355328) (some (Lib.join xs sep))
theorem zqE {w:World}: ∀{cs:List Value} {xs:List (List UInt8)} {f:List Nat},Rd w cs (AL (xs.map IX)) f→ ∃bs:List ByteArray,cs=bs.map Value.string∧bs.map (·.data.toList)=xs
 |cs, [],f,h=>by obtain⟨rfl,_⟩:=Mp (by simpa [AL]using h);exact⟨[],rfl,rfl⟩
 |cs,x::xs,f,h=>by
  have h':Rd w cs (.str x::AL (xs.map IX)) f:=by simpa [AL]using h
  obtain⟨b,us,rfl,rfl,_,h2⟩:=ME h';obtain⟨bs,rfl,rfl⟩:=zqE h2;exact⟨b::bs,rfl,rfl⟩
theorem zts (a0:List (List UInt8)) (a1 r:List UInt8) (h:Y9 a0 a1=some r):Cw Tryz.prog Cv 199 [.sl (a0.map IX), .str a1] (.str r):=aU (by kernel_rfl) fun w vs rf hr=>by
 obtain⟨⟨Gg,EF⟩,h⟩:=GV h;cases h;generalize hx:a0.map IX=ys at hr;cases hr with
 |fc hr=>
  obtain⟨b1,us1,rfl,rfl,_,hr⟩:=ME hr;obtain⟨rfl,rfl⟩:=Mp hr;have:a0= []:=by simpa using hx
  subst this;refine(Tryz.strings_Join_none _ _ b1 w).mono ?_;rintro e w' ⟨rfl,rfl⟩;exact⟨Mod.refl [] _,_, [],rfl, .str (by simp [ByteArray.size]) .nil,by simp⟩
 |gu hb h1 h2 h3 h4 h5 h6 Hj h7 hr=>
  rename_i bk o n c cs C t fz sz f1 vs f;obtain⟨b1,us1,rfl,rfl,_,hr⟩:=ME hr;obtain⟨rfl,rfl⟩:=Mp hr;subst hx;obtain⟨bs,rfl,rfl⟩:=zqE h7;have hn:n=bs.length:=by simpa using h3.symm
  subst hn;have QD:bk<w.heap.size:=F7 hb;refine(Tryz.strings_Join bk o c bs b1 w (fun j x hx=> ?_) QD (by simpa using Gg) h2.2 EF).mono ?_
  ·have:=h6 j (.string x) (by simp [hx]);rw [Fe hb];exact this
  ·rintro e w' ⟨rfl,cL⟩;exact⟨.fh cL (Nat.le_refl _),_, [],rfl, .str (by simp [ByteArray.size];omega) .nil,by simp⟩
theorem Zi {P:Program} (w:World) (dT sT ty elem:TypeId) (k:Nat) (g o dLen dCap:Nat) (a:Addr) (sLen sCap:Nat) (cur:Array Value) (t:TypeId) (cs:List Value)
  (hu:P.underlying dT=some (.slice elem)) (hs:(P.info? elem).map (·.size)=some k)
  (hg:w.heap[g]?=some (.cells cur t (0,0))) (hn:cs.length=Nat.min sLen dLen*k)
  (F2: ∀j v,cs[j]?=some v→w.cell? (a.add j)=some v) (OH:o+cs.length≤cur.size) (h1: ∀v∈cs,v.oneCell'=true):
  (Builtin.copy_ #[dT,sT] ty #[.slice (some ⟨g,o,none⟩) dLen dCap, .slice (some a) sLen sCap]).run P w=
   .ok (goInt (Nat.min sLen dLen)) (w.setRow g (cur.toList.take o++cs++cur.toList.drop (o+cs.length)).toArray):=by
 have hl:=run_loadCells_list (P:=P) w a cs F2;have AW:=run_storeCells_at P g o t cs 0 cur w hg (by simpa using OH) h1;cases hq:P.info? elem with
 |none=>simp [hq]at hs
 |some i=>
  have hi:i.size=k:=by simpa [hq]using hs
  rw [hn]at hl;simp [Builtin.copy_,run_underlying hu,Builtin.lenOf,Builtin.firstCells,sizeOf,typeInfo,hq,hi,hl,AW]
theorem mI {P:Program} (w:World) {ops:Array Oper} {rest:List Oper} {o:Oper} {a:Act} {Q:Exit→Act→World→Prop} (QF:o.guard=none) (d s:Operand) (t t':TypeId)
  (ho:o.op= .call {callee:= .builtin .copy,args:= #[d,s],argTypes:= #[t,t']}) (v u:Value) (hd:a.eval d=v) (hs:a.eval s=u) {v':Value} {w':World}
  (hr:(Builtin.copy_ #[t,t'] o.type #[v,u]).run P w= .ok v' w') (h:wpList P ops Q rest (a.put o.dst v') w'):wpList P ops Q (o::rest) a w:=
 wpList_plain QF fun _ hK=>by unfold Oper.wp execOp;simp only [ho,resolve,invoke,builtin,Sem.run_bind,Sem.run_pure,Result.andThen_ok,List.map_toArray,List.map_cons,List.map_nil,hd,hs,hr];exact hK _ _ h
theorem zs1 {P:Program} {ops:Array Oper} {o:Oper} {a:Act} {w:World} {K:Act→World→Prop} {Q:Exit→Act→World→Prop} {E:Prop}
  (hg:o.guard=none) (d x:Operand) (dT sT:TypeId) (AS:o.op=Op.call {callee:=Callee.builtin Builtin.copy,args:= #[d,x],argTypes:= #[dT,sT]})
  (v u:Value) (hd:a.eval d=v) (hx:a.eval x=u) {v':Value} {w':World} (hr:(Builtin.copy_ #[dT,sT] o.type #[v,u]).run P w= .ok v' w') (hK:K (a.put o.dst v') w'):
  if Region.wanted o (yielded ops a.tmps)=true then Oper.wp P o a w K Q else E:=by
 have hw:Region.wanted o (yielded ops a.tmps)=true:=by simp [Region.wanted,hg]
 rw [if_pos hw];unfold Oper.wp;simp [execOp,AS,resolve,invoke,builtin,hd,hx,hr,Result.andThen];exact hK
def Hg (w:World) (el:TypeId) (k:Nat) (g cap:Nat) (C:Array Value) (n:Nat) (cs:List Value):Prop:=
 n≤cap∧cap≤maxLen∧w.heap[g]?=some (.cells C el (0,0))∧C.size=cap*k∧cs=C.toList.take (n*k)
def Po (w w':World) (el:TypeId) (k:Nat) (own:List Nat) (v:Value) (n:Nat) (cs:List Value):Prop:=
 ∃g cap C,v= .slice (some ⟨g,0,none⟩) n cap∧Hg w' el k g cap C n cs∧Mod own w w'∧(g∈own∨w.heap.size≤g)
def hY (P:Program) (f:Nat) (el:TypeId) (k:Nat):Prop:=
 ∀(w:World) (v:Value) (n i:Nat) (cs:List Value) (own:List Nat) (vb vc m:Nat) (VC:Array Value) (vs:List Value),cs.length=n*k→
  ((n=0∧ ∃q,v= .slice q 0 0)∨ ∃g cap C,v= .slice (some ⟨g,0,none⟩) n cap∧Hg w el k g cap C n cs∧g∈own)→i≤n→Hg w el k vb vc VC m vs→(∀g∈own,vb≠g)→0<m→(n+m)*1000≤140737488355328→
  (∀u∈vs,u.oneCell'=true)→(∀u∈cs,u.oneCell'=true)→
  Calls P f #[v, .int .i64 i, .slice (some ⟨vb,0,none⟩) m vc] w fun e w'=> ∃u,e= .returned u∧Po w w' el k own u (n+m) (cs.take (i*k)++vs++cs.drop (i*k))
theorem Hg.cell {w:World} {el:TypeId} {k g cap:Nat} {C:Array Value} {n:Nat} {cs:List Value} (h:Hg w el k g cap C n cs) (off j:Nat) (v:Value) (hj:(cs.drop off)[j]?=some v):w.cell? ((⟨g,off,none⟩:Addr).add j)=some v:=by
 obtain⟨_,_,h3,_,h5⟩:=h;rw [Addr.add_lit,Fe h3];rw [List.getElem?_drop,h5,List.getElem?_take]at hj;split at hj
 ·simpa using hj
 ·cases hj
theorem Hg.len {w:World} {el:TypeId} {k g cap:Nat} {C:Array Value} {n:Nat} {cs:List Value} (h:Hg w el k g cap C n cs):cs.length=n*k:=by obtain⟨h1,_,_,h4,h5⟩:=h;have:=Nat.mul_le_mul_right k h1;rw [h5,List.length_take,Array.length_toList];omega
theorem zHU {α:Type} (cur cs vs:List α) (i m n:Nat) (hc:cs=cur.take n) (hi:i≤n) (hv:vs.length=m) (hn:n+m≤cur.length):
  let c1:=cur.take (i+m)++cs.drop i++cur.drop (i+m+(cs.drop i).length)
  (c1.take i++vs++c1.drop (i+vs.length)).take (n+m)=cs.take i++vs++cs.drop i:=by
 have AF:cs.length=n:=by rw [hc,List.length_take];omega
 have hd:(cs.drop i).length=n-i:=by rw [List.length_drop,AF]
 intro c1;have e1:c1.take i=cs.take i:=by show(cur.take (i+m)++cs.drop i++_).take i=_;rw [List.append_assoc,List.take_append_of_le_length (by rw [List.length_take];omega),List.take_take,hc,List.take_take];congr 1;omega
 have e2:c1.drop (i+vs.length)=cs.drop i++cur.drop (i+m+(cs.drop i).length):=by show(cur.take (i+m)++cs.drop i++_).drop _=_;rw [List.append_assoc,List.drop_append_of_le_length (by rw [List.length_take,hv];omega),List.drop_eq_nil_of_le (by rw [List.length_take,hv];omega),List.nil_append]
 rw [e1,e2];have l1:(cs.take i++vs++cs.drop i).length=n+m:=by simp only [Ap,List.length_take,hv,hd,AF];omega
 rw [←List.append_assoc,←l1,List.take_left]
theorem two {α:Type} (zs cs vs:List α) (i m n:Nat) (cur:List α) (cT:cur=cs.take i++zs) (AF:cs.length=n) (hi:i≤n) (hv:vs.length=m) (hz:n+m-i≤zs.length):
  let c1:=cur.take i++vs++cur.drop (i+vs.length)
  (c1.take (i+m)++cs.drop i++c1.drop (i+m+(cs.drop i).length)).take (n+m)=cs.take i++vs++cs.drop i:=by
 have ht:(cs.take i).length=i:=by rw [List.length_take];omega
 intro c1;have e1:c1=cs.take i++vs++cur.drop (i+vs.length):=by show cur.take i++vs++cur.drop (i+vs.length)=_;rw [cT];congr 2;rw [List.take_append_of_le_length (by omega),List.take_take,Nat.min_self]
 have e2:c1.take (i+m)=cs.take i++vs:=by
  have l2:(cs.take i++vs).length=i+m:=by rw [Ap,ht,hv]
  rw [e1,←l2,List.take_left]
 rw [e2];have l1:(cs.take i++vs++cs.drop i).length=n+m:=by simp only [Ap,ht,hv,List.length_drop,AF];omega
 rw [←l1,List.take_left]
theorem qB (xs ys:List AV):AL (xs++ys)=AL xs++AL ys:=by simp [AL]
theorem zzT {K:Nat} {xs:List AV} (h: ∀y∈xs,y.cells.length=K) {i:Nat} (hi:i≤xs.length):AL (xs.take i)=(AL xs).take (i*K)∧AL (xs.drop i)=(AL xs).drop (i*K):=by
 have l1:(AL (xs.take i)).length=i*K:=by rw [NU _ fun y hy=>h y (List.mem_of_mem_take hy),List.length_take,Nat.min_eq_left hi]
 have e:AL xs=AL (xs.take i)++AL (xs.drop i):=by rw [←qB,List.take_append_drop]
 rw [e,←l1,List.take_left,List.drop_left];exact⟨rfl,rfl⟩
theorem Dd.n6 {w:World} {el K:Nat} {v:Value} {x:AV} {top:List Nat} (h:Dd w el K v x top []): ∃xs cs,x= .sl xs∧0<K∧(∀y∈xs,y.cells.length=K)∧cs.length=xs.length*K∧Rd w cs (AL xs) []∧(∀u∈cs,u.oneCell'=true)∧
  ((xs= []∧top= []∧ ∃q,v= .slice q 0 0)∨ ∃g cap C,v= .slice (some ⟨g,0,none⟩) xs.length cap∧Hg w el K g cap C xs.length cs∧top= [g]):=by
 obtain⟨xs,rfl,h2,h3,⟨rfl,⟨a,hv⟩,rfl,_⟩|⟨g,cap,C,rfl,h6,h7,h8,h9,rfl,Hi,Ep⟩⟩:=h
 ·exact⟨[], [],rfl,h3,h2,by simp,by simpa [AL]using Rd.nil,by simp, .inl ⟨rfl,rfl,a,hv⟩⟩
 ·exact⟨xs,_,rfl,h3,h2,(Hg.len ⟨h6,h7,h8,h9,rfl⟩),Ep,Hi, .inr ⟨g,cap,C,rfl,⟨h6,h7,h8,h9,rfl⟩,rfl⟩⟩
theorem zwO {P:Program} {w:World} {t el:TypeId} {v:Value} {x:AV} {rf hs:List Nat} (ha:Ao P t=false) (hl:A9 P t= [t]) (he:CT P t=some el) (hf:Cg P el=true) (h:Qq P w t [true] v x rf hs):rf= []∧Dd w el (P.cellsOf el) v x hs []:=by
 obtain⟨us,ys,h1,h2⟩:=h;rw [ha]at h1;simp only [AX,if_false]at h1;obtain⟨rfl,rfl⟩:=h1;rw [hl]at h2;cases h2 with
 |own q1 q2 q3 q4 q5=>
  cases q5;rw [he]at q2;cases q2;rcases q3 with⟨_,rfl⟩|⟨h,_⟩
  ·exact⟨rfl,by simpa using q4⟩
  ·rw [hf]at h;cases h
 |deep q1 q2 q3=>rw [he]at q2;cases q2;rw [hf]at q3;cases q3
 |rd q1=>have:=q1 rfl;rw [he]at this;cases this
def iL (P:Program) (sg:B0) (f:Nat) (t it el K:Nat):Bool:=
 match P.funcs[f]?,sg f with
 |some fn,some s=>(match s.cx,s.res,s.ft,s.lo with
  | [.va [true], .ro, .va [true]], [true], [], []=>true
  |_,_,_,_=>false)&&fn.body.isSome&& !(fn.name== "runtime.NumGoroutine")&&fn.params.toList== [t,it,t]&&fn.resultTypes.toList== [t]&&fn.nfree==0&& !Ao P t&&A9 P t== [t]&&CT P t==some el&&Cg P el&&P.cellsOf el==K&&Hd P t [true]&&fn.params.size==3
 |_,_=>false
def gW (P:Program) (sg:B0) (f:Nat) (r:List AV):Bool:=match P.funcs[f]?,sg f with
 |some fn,some s=>N5 P fn s (.sl r)
 |_,_=>false
theorem zF9 {f t it el K:Nat} (hk:iL Tryz.prog Cv f t it el K=true) (EB: ∀r,gW Tryz.prog Cv f r=true) (EV:hY Tryz.prog f el K) (xs ys:List AV) (i:Int) (h0:0≤i) (h1:i≤xs.length) (hy:ys≠ []) (hb:(xs.length+ys.length)*1000≤140737488355328):
  Cw Tryz.prog Cv f [.sl xs, .int .i64 i, .sl ys] (.sl (xs.take i.toNat++ys++xs.drop i.toNat)):=by
 unfold iL at hk;split at hk
 ·rename_i fn s hf hs;simp only [Ae,Bool.not_eq_true',beq_iff_eq]at hk;obtain⟨⟨⟨⟨⟨⟨⟨⟨⟨⟨⟨⟨g1,g2⟩,g3⟩,g4⟩,g5⟩,g6⟩,g7⟩,g8⟩,g9⟩,g10⟩,g11⟩,g12⟩,g13⟩:=hk;obtain⟨hm,hr,EC,Ci⟩:s.cx= [.va [true], .ro, .va [true]]∧s.res= [true]∧s.ft= []∧s.lo= []:=by
   split at g1
   ·rename_i a b c d;exact⟨a,b,c,d⟩
   ·cases g1
  unfold Cw;rw [if_pos (S8 f s hs)];refine⟨s,hs,fn,hf,g2,g3,by have:=EB (xs.take i.toNat++ys++xs.drop i.toNat);unfold gW at this;rw [hf,hs]at this;exact this,by simp [g6,g13],by simp [EC],fun w vs rf lf Bh Ay hd _ Co Ev=> ?_⟩;rw [g4,EC,List.append_nil,hm,Ci]at Ay;cases Ay with
  |lent h _ _ _=>cases h
  | @cons _ _ _ _ v1 vs1 _ _ f1 k1 rf1 lf1 BO a1 Ay=>
   cases Ay with
   |lent h _ _ _=>cases h
   | @cons _ _ _ _ v2 vs2 _ _ f2 k2 rf2 lf2 A6 a2 Ay=>
    cases Ay with
    |lent h _ _ _=>cases h
    | @cons _ _ _ _ v3 vs3 _ _ f3 k3 rf3 lf3 Fw a3 Ay=>
     cases Ay;obtain⟨rfl,r1⟩:=zwO g7 g8 g9 g10 a1;obtain⟨rfl,r3⟩:=zwO g7 g8 g9 g10 a3;obtain⟨a2,rfl⟩:Rd w [v2] [AV.int .i64 i] f2∧k2= []:=a2;obtain⟨us,rfl2,hI,a2⟩:=WM a2;obtain⟨rfl,rfl⟩:=Mp a2;cases rfl2;obtain⟨xs',cs,e1,p0,p1,p2,p3,p4,p5⟩:=r1.n6;cases e1;obtain⟨ys',cv,e2,_,q1,q2,q3,q4,q5⟩:=r3.n6;cases e2;rw [g11]at p0 p1 p2 p5 q1 q2 q5;obtain⟨vb,vc,VC,rfl,hv,rfl⟩: ∃g cap C,v3= .slice (some ⟨g,0,none⟩) ys.length cap∧Hg w el K g cap C ys.length cv∧k3= [g]:=by
      rcases q5 with⟨h,_⟩|h
      ·exact absurd h hy
      ·exact h
     have hnd':k1++ [vb]=k1++([]++([vb]++ [])):=by simp
     have Xb: ∀g∈k1,vb≠g:=by intro g hg e;subst e;have:=(List.nodup_append.1 Co).2.2 vb hg vb (by simp);exact this rfl
     have hym:0<ys.length:=by cases ys with|nil=>exact absurd rfl hy|cons=>simp
     have hc:=EV w v1 xs.length i.toNat cs k1 vb vc ys.length VC cv p2 (by
      rcases p5 with⟨rfl,_,q,rfl⟩|⟨g,cap,C,rfl,h,rfl⟩
      ·exact .inl ⟨rfl,q,rfl⟩
      ·exact .inr ⟨g,cap,C,rfl,h,by simp⟩) (by omega) hv Xb hym hb q4 p4
     rw [show((i.toNat:Nat):Int)=i by omega]at hc;refine hc.mono ?_;rintro e w' ⟨u,rfl,g,cap,C,rfl,⟨z1,z2,z3,z4,z5⟩,DA,ED⟩;have Jb: ∀{us:List Value} {zs:List AV},Rd w us zs []→Rd w' us zs []:=fun h=>h.frame (by simp);have cut: ∀o n,Rd w ((cs.drop o).take n) (((AL xs).drop o).take n) []:=fun o n=>by
      obtain⟨gg,k1,k2⟩:=p3.piece o n;have:gg= []:=List.eq_nil_iff_forall_not_mem.2 fun b hb=>by simpa using k1 b hb
      rw [this]at k2;exact k2
     obtain⟨t1,t2⟩:=zzT p1 (i:=i.toNat) (by omega);have hmul:=Nat.mul_le_mul_right K (show i.toNat≤xs.length by omega);have DJ:Rd w' (cs.take (i.toNat*K)++cv++cs.drop (i.toNat*K)) (AL (xs.take i.toNat++ys++xs.drop i.toNat)) []:=by rw [qB,qB,t1,t2];have c1:=cut 0 (i.toNat*K);have c2:=cut (i.toNat*K) (cs.length-i.toNat*K);rw [List.drop_zero,List.drop_zero]at c1;rw [List.take_of_length_le (by simp),List.take_of_length_le (by rw [List.length_drop,NU _ p1,p2];exact Nat.le_refl _)]at c2;exact(((Jb c1).app (Jb q3)).app (Jb c2))
     have hlen:(xs.take i.toNat++ys++xs.drop i.toNat).length=xs.length+ys.length:=by simp only [Ap,List.length_take,List.length_drop];omega
     have BH:Dd w' el K (.slice (some ⟨g,0,none⟩) (xs.length+ys.length) cap) (.sl (xs.take i.toNat++ys++xs.drop i.toNat)) [g] []:=by
      refine⟨_,rfl,fun y hy=> ?_,p0, .inr ⟨g,cap,C,by rw [hlen],by rw [hlen];exact z1,z2,z3,z4,rfl, ?_, ?_⟩⟩
      ·rcases Ai.1 hy with hy|hy
       ·rcases Ai.1 hy with hy|hy
        ·exact p1 y (List.mem_of_mem_take hy)
        ·exact q1 y hy
       ·exact p1 y (List.mem_of_mem_drop hy)
      ·rw [hlen,←z5];intro u hu;rcases Ai.1 hu with hu|hu
       ·rcases Ai.1 hu with hu|hu
        ·exact p4 u (List.mem_of_mem_take hu)
        ·exact q4 u hu
       ·exact p4 u (List.mem_of_mem_drop hu)
      ·rw [hlen,←z5];exact DJ
     refine⟨_,rfl,⟨⟨_, [], [], [g], [], [],rfl, ?_, ?_,by simp, ?_,by simp⟩,DA.weaken fun b hb=> .inl (by simp [hb])⟩⟩
     ·rw [g5];show E6 Tryz.prog w' t s.res _ _ [] [g];unfold E6;rw [hr,if_pos g12];refine⟨[.slice (some ⟨g,0,none⟩) (xs.length+ys.length) cap], [.sl (xs.take i.toNat++ys++xs.drop i.toNat)],by rw [g7];simp, ?_⟩;rw [g8];have:=CA.own (P:=Tryz.prog) (t:=t) (ts:= []) (fl:= [true]) (us:= []) (ys:= []) (rf:= []) (hs:= []) rfl g9 (.inl ⟨g10,rfl⟩) (by rw [g11];exact BH) .nil;simpa using this
     ·rw [g4,EC,List.append_nil,hm];exact .va rfl (.ro rfl (.va rfl .nil))
     ·intro b hb;simp only [List.append_nil,List.mem_singleton]at hb;subst hb;exact⟨by rcases ED with h|h;exact .inl (by simp [h]);exact .inr h,F7 z3⟩
 ·cases hk
noncomputable def aG {α:Type} (xs:List α) (i:Int) (ys:List α):Option (List α):=req (0≤i∧i≤xs.length∧0<ys.length∧(xs.length+ys.length)*1000≤140737488355328) (some (xs.take i.toNat++ys++xs.drop i.toNat))
theorem zF6 {f t it el K:Nat} (hk:iL Tryz.prog Cv f t it el K=true) (EB: ∀r,gW Tryz.prog Cv f r=true) (EV:hY Tryz.prog f el K) {α:Type} {av:α→AV} {xs ys r:List α} {i:Int} (h:aG xs i ys=some r):
  Cw Tryz.prog Cv f [.sl (xs.map av), .int .i64 i, .sl (ys.map av)] (.sl (r.map av)):=by
 obtain⟨⟨h0,h1,h2,h3⟩,h⟩:=GV h;cases h;have:=zF9 hk EB EV (xs.map av) (ys.map av) i h0 (by simpa using h1) (by cases ys with|nil=>simp at h2|cons=>simp) (by simpa using h3);simpa [List.map_append,List.map_take,List.map_drop]using this
theorem pR: ∃i z,Tryz.prog.info? 143=some i∧i.size=3∧i.zero=some z∧z.cells.size=3∧i.bytes≤1000:=by
 have h:(match Tryz.prog.info? 143 with|some i=>(match i.zero with|some z=>i.size==3&&z.cells.size==3&&decide (i.bytes≤1000)|none=>false)|none=>false)=true:=by kernel_rfl
 split at h
 ·rename_i i hi;split at h
  ·rename_i z hz;simp only [Ae,beq_iff_eq,decide_eq_true_eq]at h;exact⟨i,z,hi,h.1.1,hz,h.1.2,h.2⟩
  ·cases h
 ·cases h
set_option maxHeartbeats 4000000 in
theorem zu8 (w:World) (v:Value) (n:Nat) (cs:List Value) (own:List Nat) (AF:cs.length=n*3) (BI:(n=0∧ ∃q,v= .slice q 0 0)∨ ∃g cap C,v= .slice (some ⟨g,0,none⟩) n cap∧Hg w 143 3 g cap C n cs∧g∈own)
  (vb vc m:Nat) (VC:Array Value) (vs:List Value) (hv:Hg w 143 3 vb vc VC m vs) (hm:0<m) (hb:(n+m)*1000≤140737488355328) (Lk: ∀u∈vs,u.oneCell'=true):
  Calls Tryz.prog 285 #[v, .int .i64 n, .slice (some ⟨vb,0,none⟩) m vc] w fun e w'=> ∃u,e= .returned u∧Po w w' 143 3 own u (n+m) (cs++vs):=by
 obtain⟨i0,z0,hi,hs,hz,D0,G0⟩:=pR;have UC: ¬((m:Int)=0):=by omega
 have F2:Src w i0.size (some ⟨vb,0,none⟩) m vs:= .inr ⟨_,rfl,by rw [hs];exact hv.len,fun j u hj=>hv.cell 0 j u (by simpa using hj),Lk⟩;obtain⟨v',w1,hr,AQ⟩:=sL (P:=Tryz.prog) w 27 27 143 i0 z0 Tryz.underlying27 hi hz (by rw [D0,hs]) (by omega) (fun b=>b∈own) v n cs (by rw [hs];exact AF)
  (by
   rcases BI with h|⟨g,cap,C,rfl,⟨h1,h2,h3,h4,h5⟩,h6⟩
   ·exact .inl h
   ·exact .inr ⟨g,cap,C,rfl,h1,h2,h3,by rw [hs];exact h4,by rw [hs];exact h5,h6⟩)
  (some ⟨vb,0,none⟩) m vc vs F2 (by simp only [maxLen];omega) (by have:=Nat.mul_le_mul_left (n+m) G0;omega)
 have fin:Po w w1 143 3 own v' (n+m) (cs++vs):=by
  rcases AQ with⟨_,_,h⟩|⟨g,cap,C,rfl,h1,h2,h3,h4,h5,h6,h7⟩
  ·omega
  ·refine⟨g,cap,C,rfl,⟨h1,h2,h3,by rw [hs]at h4;exact h4,by rw [hs]at h5;exact h5.symm⟩, ?_,h7.symm.imp id fun h=>by omega⟩;refine⟨h6.os,h6.tape,h6.output,h6.size,fun b hb hn=>h6.block b hb fun e=> ?_⟩;cases e;rcases h7 with h7|h7
   ·omega
   ·exact hn h7
 clear AQ;rcases BI with⟨rfl,q,rfl⟩|⟨g,cap,C,rfl,_,_⟩
 ·cases q with
  |none=>
   go_enter Tryz.func285,Tryz.ntmps285
   go_wp2_with (at_builtin;refine Lib.wpList_append_run _ rfl _ _ _ _ rfl _ _ rfl rfl _ _ hr ?_)
   all_goals (go_ret;exact⟨_,rfl,fin⟩)
  |some q=>
   obtain⟨qb,qo,qs⟩:=q
   go_enter Tryz.func285,Tryz.ntmps285
   go_wp2_with (at_builtin;refine Lib.wpList_append_run _ rfl _ _ _ _ rfl _ _ rfl rfl _ _ hr ?_)
   all_goals (go_ret;exact⟨_,rfl,fin⟩)
 ·go_enter Tryz.func285,Tryz.ntmps285
  go_wp2_with (at_builtin;refine Lib.wpList_append_run _ rfl _ _ _ _ rfl _ _ rfl rfl _ _ hr ?_)
  all_goals (go_ret;exact⟨_,rfl,fin⟩)
set_option maxHeartbeats 4000000 in
theorem ztz (w:World) (n i g cap:Nat) (C:Array Value) (cs:List Value) (own:List Nat) (vb vc m:Nat) (BI:Hg w 143 3 g cap C n cs) (Ch:i<n) (CF:cap<n+m)
  (VC:Array Value) (vs:List Value) (hv:Hg w 143 3 vb vc VC m vs) (hm:0<m) (hb:(n+m)*1000≤140737488355328) (Lk: ∀u∈vs,u.oneCell'=true) (Ja: ∀u∈cs,u.oneCell'=true):
  Calls Tryz.prog 285 #[.slice (some ⟨g,0,none⟩) n cap, .int .i64 i, .slice (some ⟨vb,0,none⟩) m vc] w fun e w'=> ∃u,e= .returned u∧Po w w' 143 3 own u (n+m) (cs.take (i*3)++vs++cs.drop (i*3)):=by
 obtain⟨i0,z0,hi,hs,hz,D0,G0⟩:=pR;have AF:=BI.len;have Ex:=hv.len;have cO:=BI;obtain⟨Uh,Lt,hg,TE,Bm⟩:=cO;have hgw:g<w.heap.size:=F7 hg;have hvw:vb<w.heap.size:=F7 hv.2.2.1;have Cf:(Tryz.prog.info? 143).map (·.size)=some 3:=by rw [hi];simp [hs]
 have dN:i+(n+m-i)=n+m:=by omega
 have Xd:(n+m)*i0.bytes≤140737488355328:=Nat.le_trans (Nat.mul_le_mul_left _ G0) hb;have QD:(n+m-i)*i0.bytes≤140737488355328:=Nat.le_trans (Nat.mul_le_mul_right _ (by omega)) Xd;have hold:(Builtin.firstCells i0.size i (.slice (some ⟨g,0,none⟩) i cap)).run Tryz.prog w.drew= .ok (cs.take (i*3)).toArray w.drew:=by
  rw [hs];exact run_firstCells_some w.drew 3 i ⟨g,0,none⟩ i cap (cs.take (i*3)) (by rw [List.length_take];omega) (fun j v hj=>by
   rw [List.getElem?_take]at hj;split at hj
   ·exact BI.cell 0 j v (by simpa using hj)
   ·cases hj)
 have fC: ∀ty,(Builtin.append_ #[27,3] ty #[.slice (some ⟨g,0,none⟩) i cap, .int .i64 ((n:Int)+(m:Int)-(i:Int))]).run Tryz.prog w=
   .ok (.slice (some ⟨w.heap.size,0,none⟩) (n+m) (grownCap w (n+m) cap 143)) (w.drew.alloc (.cells ((cs.take (i*3)).toArray++Builtin.zeroCells z0.cells (n+m-i)++Builtin.zeroCells z0.cells (grownCap w (n+m) cap 143-(n+m))) 143)):=fun ty=>by
  have h:=Lib.run_append_grow_zeros w 27 3 ty 143 i0 z0 .i64 .i64 Tryz.underlying27 Tryz.underlying3 hi hz (some ⟨g,0,none⟩) i cap (cs.take (i*3)) hold (n+m-i) (by omega) (by omega) (by omega) (by omega) (by omega) (by rw [dN];exact growslice_fits CF Xd);rw [dN]at h;rw [show(n:Int)+(m:Int)-(i:Int)=((n+m-i:Nat):Int) by omega];exact h
 obtain⟨G,hG⟩: ∃G,G=grownCap w (n+m) cap 143:=⟨_,rfl⟩
 obtain⟨ROW,Ln⟩: ∃ROW:Array Value,ROW=(cs.take (i*3)).toArray++Builtin.zeroCells z0.cells (n+m-i)++Builtin.zeroCells z0.cells (G-(n+m)):=⟨_,rfl⟩
 have hGn:n+m≤G:=by rw [hG];exact grownCap_ge w _ _ _
 have TG:G≤maxLen:=by rw [hG];exact grownCap_le_maxLen w (n+m) cap 143 (by unfold maxLen;omega)
 have hG64:G≤9223372036854775807:=TG;rw [←hG]at fC;rw [←Ln]at fC;have hRs:ROW.size=G*3:=by rw [Ln];simp only [Array.size_append,List.size_toArray,List.length_take,size_zeroCells,D0];omega
 obtain⟨ROW2,HX⟩: ∃R:Array Value,R=(ROW.toList.take (i*3)++vs++ROW.toList.drop (i*3+vs.length)).toArray:=⟨_,rfl⟩
 obtain⟨ROW3,W5⟩: ∃R:Array Value,R=(ROW2.toList.take ((i+m)*3)++cs.drop (i*3)++ROW2.toList.drop ((i+m)*3+(cs.drop (i*3)).length)).toArray:=⟨_,rfl⟩
 have cB:ROW2.size=G*3:=by rw [HX];simp only [List.size_toArray,Ap,List.length_take,List.length_drop,Array.length_toList];omega
 have cC:ROW3.size=G*3:=by rw [W5];simp only [List.size_toArray,Ap,List.length_take,List.length_drop,Array.length_toList];omega
 obtain⟨N,hN⟩: ∃N,N=w.heap.size:=⟨_,rfl⟩
 have hA:(w.alloc (.cells ROW 143)).heap[N]?=some (.cells ROW 143 (0,0)):=by rw [hN];exact heap_alloc_new w _
 have hO: ∀k,k<N→(w.alloc (.cells ROW 143)).heap[k]?=w.heap[k]?:=fun k hk=>Below.heap_alloc w _ k (by omega);have cS: ∀(W:World),W.heap=(w.alloc (.cells ROW 143)).heap→ ∀ty dc,(Builtin.copy_ #[27,27] ty #[.slice (some ⟨N,i*3,none⟩) (n+m-i) dc, .slice (some ⟨vb,0,none⟩) m vc]).run Tryz.prog W= .ok (goInt m) (W.setRow N ROW2):=fun W hW ty dc=>by
  have h:=Zi (P:=Tryz.prog) W 27 27 ty 143 3 N (i*3) (n+m-i) dc ⟨vb,0,none⟩ m vc ROW 143 vs Tryz.underlying27 Cf (by rw [hW];exact hA) (by rw [Ex,show Nat.min m (n+m-i)=m from Nat.min_eq_left (by omega)])
   (fun j v hj=>by rw [World.cell?_of_block (w:=w) (by rw [Addr.add_lit,hW];exact hO vb (by omega))];exact hv.cell 0 j v (by simpa using hj)) (by rw [hRs,Ex];omega) Lk
  rw [show Nat.min m (n+m-i)=m from Nat.min_eq_left (by omega),←HX]at h;exact h
 have hB:((w.alloc (.cells ROW 143)).setRow N ROW2).heap[N]?=some (.cells ROW2 143 (0,0)):=setRow_heap _ _ _ _ _ _ hA;have bZ: ∀k,k<N→((w.alloc (.cells ROW 143)).setRow N ROW2).heap[k]?=w.heap[k]?:=fun k hk=>by rw [setRow_other _ _ _ _ (by omega)];exact hO k hk
 have TX: ∀(W:World),W.heap=((w.alloc (.cells ROW 143)).setRow N ROW2).heap→ ∀ty dc sc,(Builtin.copy_ #[27,27] ty #[.slice (some ⟨N,(i+m)*3,none⟩) (n+m-(i+m)) dc, .slice (some ⟨g,i*3,none⟩) (n-i) sc]).run Tryz.prog W= .ok (goInt ((n-i:Nat):Int)) (W.setRow N ROW3):=fun W hW ty dc sc=>by
  have h:=Zi (P:=Tryz.prog) W 27 27 ty 143 3 N ((i+m)*3) (n+m-(i+m)) dc ⟨g,i*3,none⟩ (n-i) sc ROW2 143 (cs.drop (i*3)) Tryz.underlying27 Cf (by rw [hW];exact hB) (by rw [List.length_drop,AF,show Nat.min (n-i) (n+m-(i+m))=n-i from Nat.min_eq_left (by omega)];omega)
   (fun j v hj=>by rw [World.cell?_of_block (w:=w) (by rw [Addr.add_lit,hW];exact bZ g (by omega))];exact BI.cell (i*3) j v hj) (by rw [cB,List.length_drop,AF];omega) (fun v hv=>Ja v (List.mem_of_mem_drop hv))
  rw [show Nat.min (n-i) (n+m-(i+m))=n-i from Nat.min_eq_left (by omega),←W5]at h;exact h
 have fin: ∀W:World,W.os=w.os→W.tape=w.tape→W.output=w.output→W.heap=(((w.alloc (.cells ROW 143)).setRow N ROW2).setRow N ROW3).heap→Po w W 143 3 own (.slice (some ⟨N,0,none⟩) (n+m) G) (n+m) (cs.take (i*3)++vs++cs.drop (i*3)):=fun W w1 w2 w3 hW=>by refine⟨N,G,ROW3,rfl,⟨hGn,TG,by rw [hW];exact setRow_heap _ _ _ _ _ _ hB,cC, ?_⟩,⟨w1,w2,w3,by rw [hW];simp,fun k hk _=>by rw [hW,setRow_other _ _ _ _ (by omega)];exact bZ k (by omega)⟩, .inr (by omega)⟩;have h:=two ((Builtin.zeroCells z0.cells (n+m-i)).toList++(Builtin.zeroCells z0.cells (G-(n+m))).toList) cs vs (i*3) (m*3) (n*3) ROW.toList (by rw [Ln];simp) AF (Nat.mul_le_mul_right _ (by omega)) Ex (by simp only [Ap,Array.length_toList,size_zeroCells,D0];omega);rw [W5,HX,Nat.add_mul n m,Nat.add_mul i m];exact h.symm
 have UC: ¬((m:Int)=0):=by omega
 have UD: ¬((i:Int)=(n:Int)):=by omega
 have hz3:(cap:Int)<(n:Int)+(m:Int):=by omega
 have hGi: ¬(G=i):=by omega
 have hGim: ¬(G=i+m):=by omega
 have TV: ¬(cap=i):=by omega
 have GK:IntKind.i64.wrap ((i:Int)+(m:Int))=(i:Int)+(m:Int):=by rw [IntKind.wrap_i64];omega
 have Iw:(0:Int)≤(i:Int)+(m:Int):=by omega
 have dP:i≤n:=by omega
 have htn:((i:Int)+(m:Int)).toNat=i+m:=by omega
 have Gu:(i:Int)≤(n:Int):=by omega
 have sV:((w.alloc (.cells ROW 143)).drew).heap=(w.alloc (.cells ROW 143)).heap:=rfl;have bR:(((w.alloc (.cells ROW 143)).drew.setRow N ROW2).drew).heap=((w.alloc (.cells ROW 143)).setRow N ROW2).heap:=rfl;subst hN;clear hold dN Ln hG HX W5 hA hO hB bZ Bm
 go_enter Tryz.func285,Tryz.ntmps285
 go_wp2_with (first
  |(at_builtin;refine Lib.wpList_append_run _ rfl _ _ _ _ rfl _ _ rfl rfl _ _ (fC _) ?_)
  |(at_builtin;refine mI _ rfl _ _ 27 27 rfl _ _ rfl rfl (cS _ sV _ _) ?_)
  |(at_builtin;refine mI _ rfl _ _ 27 27 rfl _ _ rfl rfl (TX _ rfl _ _ _) ?_))
 go_region_law (refine zs1 rfl _ _ 27 27 rfl (.slice (some ⟨w.heap.size,(i+m)*3,none⟩) (n+m-(i+m)) (G-(i+m))) (.slice (some ⟨g,i*3,none⟩) (n-i) (cap-i)) (by simp [Act.eval,Act.put]) (by simp [Act.eval,Act.put]) (TX _ bR 3 (G-(i+m)) (cap-i)) ?_)
 go_wp2
 go_ret
 exact⟨_,rfl,fin _ rfl rfl rfl rfl⟩
set_option maxHeartbeats 4000000 in
theorem zrn (w:World) (n i g cap:Nat) (C:Array Value) (cs:List Value) (own:List Nat) (vb vc m:Nat) (BI:Hg w 143 3 g cap C n cs) (ED:g∈own) (Ch:i<n) (CF:n+m≤cap) (Xw:vb≠g)
  (VC:Array Value) (vs:List Value) (hv:Hg w 143 3 vb vc VC m vs) (hm:0<m) (hb:(n+m)*1000≤140737488355328) (Lk: ∀u∈vs,u.oneCell'=true) (Ja: ∀u∈cs,u.oneCell'=true):
  Calls Tryz.prog 285 #[.slice (some ⟨g,0,none⟩) n cap, .int .i64 i, .slice (some ⟨vb,0,none⟩) m vc] w fun e w'=> ∃u,e= .returned u∧Po w w' 143 3 own u (n+m) (cs.take (i*3)++vs++cs.drop (i*3)):=by
 obtain⟨i0,z0,hi,hs,hz,D0,G0⟩:=pR;have AF:=BI.len;have Ex:=hv.len;have cO:=BI;obtain⟨Uh,Lt,hg,TE,Bm⟩:=cO;have hgw:g<w.heap.size:=F7 hg;have Cf:(Tryz.prog.info? 143).map (·.size)=some 3:=by rw [hi];simp [hs]
 have hc64:cap≤9223372036854775807:=Lt;have Nf:=hv.2.2.1;have O1: ∀lb cb,(callFunc 306 #[.slice (some ⟨vb,0,none⟩) m vc, .slice (some ⟨g,(i+m)*3,none⟩) lb cb]).run Tryz.prog w= .ok (.value (.bool false)) w:=fun lb cb=>by
  rw [run_callFunc_extern Tryz.func306 (by kernel_rfl) (by kernel_rfl) (by kernel_rfl) (e:=Extern.SlicesOverlaps.overlaps #[27,27] #[4]) (by kernel_rfl),
   Lib.run_overlaps_apart w 27 4 143 Tryz.underlying27 3 (fun w=>by simp [Go.sizeOf,typeInfo,hi,hs]) ⟨vb,0,none⟩ ⟨g,(i+m)*3,none⟩ m vc lb cb Xw 143 143 VC.size C.size (by simp [World.shape?,Nf]) (by simp [World.shape?,hg]) (by omega) (by simp [World.frozen?,Nf]) (by simp [World.frozen?,Nf])]
  rfl
 obtain⟨C1,Ll⟩: ∃R:Array Value,R=(C.toList.take ((i+m)*3)++cs.drop (i*3)++C.toList.drop ((i+m)*3+(cs.drop (i*3)).length)).toArray:=⟨_,rfl⟩
 obtain⟨C2,WY⟩: ∃R:Array Value,R=(C1.toList.take (i*3)++vs++C1.toList.drop (i*3+vs.length)).toArray:=⟨_,rfl⟩
 have bP:C1.size=cap*3:=by rw [Ll];simp only [List.size_toArray,Ap,List.length_take,List.length_drop,Array.length_toList];omega
 have bQ:C2.size=cap*3:=by rw [WY];simp only [List.size_toArray,Ap,List.length_take,List.length_drop,Array.length_toList];omega
 have cQ: ∀(W:World),W.heap=w.heap→ ∀ty dc sc,(Builtin.copy_ #[27,27] ty #[.slice (some ⟨g,(i+m)*3,none⟩) (n+m-(i+m)) dc, .slice (some ⟨g,i*3,none⟩) (n+m-i) sc]).run Tryz.prog W= .ok (goInt ((n-i:Nat):Int)) (W.setRow g C1):=fun W hW ty dc sc=>by
  have h:=Zi (P:=Tryz.prog) W 27 27 ty 143 3 g ((i+m)*3) (n+m-(i+m)) dc ⟨g,i*3,none⟩ (n+m-i) sc C 143 (cs.drop (i*3)) Tryz.underlying27 Cf (by rw [hW];exact hg) (by rw [List.length_drop,AF,show Nat.min (n+m-i) (n+m-(i+m))=n-i from by rw [show Nat.min (n+m-i) (n+m-(i+m))=n+m-(i+m)from Nat.min_eq_right (by omega)];omega];omega)
   (fun j v hj=>by rw [World.cell?_of_block (w:=w) (by rw [hW])];exact BI.cell (i*3) j v hj) (by rw [TE,List.length_drop,AF];omega) (fun v hv=>Ja v (List.mem_of_mem_drop hv))
  rw [show Nat.min (n+m-i) (n+m-(i+m))=n-i from by rw [show Nat.min (n+m-i) (n+m-(i+m))=n+m-(i+m)from Nat.min_eq_right (by omega)];omega,←Ll]at h;exact h
 have hB:(w.setRow g C1).heap[g]?=some (.cells C1 143 (0,0)):=setRow_heap _ _ _ _ _ _ hg;have cR: ∀(W:World),W.heap=(w.setRow g C1).heap→ ∀ty dc,(Builtin.copy_ #[27,27] ty #[.slice (some ⟨g,i*3,none⟩) (n+m-i) dc, .slice (some ⟨vb,0,none⟩) m vc]).run Tryz.prog W= .ok (goInt m) (W.setRow g C2):=fun W hW ty dc=>by
  have h:=Zi (P:=Tryz.prog) W 27 27 ty 143 3 g (i*3) (n+m-i) dc ⟨vb,0,none⟩ m vc C1 143 vs Tryz.underlying27 Cf (by rw [hW];exact hB) (by rw [Ex,show Nat.min m (n+m-i)=m from Nat.min_eq_left (by omega)])
   (fun j v hj=>by rw [World.cell?_of_block (w:=w) (by rw [Addr.add_lit,hW];exact setRow_other _ _ _ _ (by simpa using Xw))];exact hv.cell 0 j v (by simpa using hj)) (by rw [bP,Ex];omega) Lk
  rw [show Nat.min m (n+m-i)=m from Nat.min_eq_left (by omega),←WY]at h;exact h
 have fin: ∀W:World,W.os=w.os→W.tape=w.tape→W.output=w.output→W.heap=((w.setRow g C1).setRow g C2).heap→Po w W 143 3 own (.slice (some ⟨g,0,none⟩) (n+m) cap) (n+m) (cs.take (i*3)++vs++cs.drop (i*3)):=fun W w1 w2 w3 hW=>by refine⟨g,cap,C2,rfl,⟨CF,Lt,by rw [hW];exact setRow_heap _ _ _ _ _ _ hB,bQ, ?_⟩,⟨w1,w2,w3,by rw [hW];simp,fun k hk hn=>by rw [hW,setRow_other _ _ _ _ (fun e=>hn (by first|(rw [e];exact ED)|(rw [←e];exact ED))),setRow_other _ _ _ _ (fun e=>hn (by first|(rw [e];exact ED)|(rw [←e];exact ED)))]⟩, .inl ED⟩;have h:=zHU C.toList cs vs (i*3) (m*3) (n*3) Bm (Nat.mul_le_mul_right _ (by omega)) Ex (by rw [Array.length_toList,TE];omega);rw [WY,Ll,Nat.add_mul n m,Nat.add_mul i m];exact h.symm
 have UC: ¬((m:Int)=0):=by omega
 have UD: ¬((i:Int)=(n:Int)):=by omega
 have hz3: ¬((cap:Int)<(n:Int)+(m:Int)):=by omega
 have TV: ¬(cap=i):=by omega
 have hcim: ¬(cap=i+m):=by omega
 have GK:IntKind.i64.wrap ((i:Int)+(m:Int))=(i:Int)+(m:Int):=by rw [IntKind.wrap_i64];omega
 have Iw:(0:Int)≤(i:Int)+(m:Int):=by omega
 have dP:i≤n:=by omega
 have htn:((i:Int)+(m:Int)).toNat=i+m:=by omega
 have Gu:(i:Int)≤(n:Int):=by omega
 have hb4:(i:Int)≤(n:Int)+(m:Int):=by omega
 have bR:(w.drew).heap=w.heap:=rfl;have hF2:(w.drew.setRow g C1).heap=(w.setRow g C1).heap:=rfl;clear Ll WY hB Bm Nf hg
 go_enter Tryz.func285,Tryz.ntmps285
 go_wp2_with (simp only [O1])
 go_region_law (refine zs1 rfl _ _ 27 27 rfl (.slice (some ⟨g,(i+m)*3,none⟩) (n+m-(i+m)) (cap-(i+m))) (.slice (some ⟨g,i*3,none⟩) (n+m-i) (cap-i)) (by simp [Act.eval,Act.put]) (by simp [Act.eval,Act.put]) (cQ _ bR 3 (cap-(i+m)) (cap-i)) ?_)
 go_wp2_with (at_builtin;refine mI _ rfl _ _ 27 27 rfl _ _ rfl rfl (cR _ hF2 _ _) ?_)
 go_ret
 exact⟨_,rfl,fin _ rfl rfl rfl rfl⟩
theorem zCG:hY Tryz.prog 285 143 3:=by
 intro w v n i cs own vb vc m VC vs AF BI Ch hv Xw hm hb Lk Ja;by_cases he:i=n
 ·subst he;refine(zu8 w v i cs own AF BI vb vc m VC vs hv hm hb Lk).mono ?_;rintro e w' ⟨u,rfl,h⟩;refine⟨u,rfl, ?_⟩;rw [List.take_of_length_le (by omega),List.drop_eq_nil_of_le (by omega),List.append_nil];exact h
 ·rcases BI with⟨rfl,_⟩|⟨g,cap,C,rfl,hr,hg⟩
  ·omega
  ·by_cases hc:n+m≤cap
   ·exact zrn w n i g cap C cs own vb vc m hr hg (by omega) hc (Xw g hg) VC vs hv hm hb Lk Ja
   ·exact ztz w n i g cap C cs own vb vc m hr (by omega) (by omega) VC vs hv hm hb Lk Ja
end Go.Proofs.YtbmbkgalkfmjdaaGreatDoor
end
section
namespace Go.Proofs.YtbmbkgalkfmjdaaGreatDoor
open Go Go.Proofs Go.Shelf Go.Sort Go.RowKit
set_option maxRecDepth 100000
set_option maxHeartbeats 1000000
def yA (P:Program) (sg:B0) (f np:Nat) (r:AV):Bool:=
 match P.funcs[f]?,sg f with
 |some fn,some s=>fn.body.isSome&& !(fn.name== "runtime.NumGoroutine")&&N5 P fn s r&&s.cx.all (fun m=>match m with| .ro=>true|_=>false)&&fn.params.size==np&&fn.nfree==0&&(s.ft.isEmpty&&s.lo.isEmpty)&&(match fn.resultTypes.toList with| [t,u]=> !Hd P t s.res&& !Hd P u (s.res.drop (A9 P t).length)|_=>false)
 |_,_=>false
theorem zEh {f:Nat} {xs:List AV} {y1 y2:AV} (hk:yA Tryz.prog Cv f xs.length (.tup [y1,y2])=true) (hc: ∀(w:World) (vs:List Value) (rf:List Nat),F6.n≤w.heap.size→F6.K w→Rd w vs xs rf→Calls Tryz.prog f vs.toArray w fun e w'=>Mod [] w w'∧ ∃v1 v2 f1 f2,e= .returned (.tuple #[v1,v2])∧Rd w' [v1] [y1] f1∧Rd w' [v2] [y2] f2∧ ∀b∈f1++f2,b∈rf∨w.heap.size≤b):Cw Tryz.prog Cv f xs (.tup [y1,y2]):=by
 unfold yA at hk;split at hk
 ·rename_i fn s hf hs;simp only [Ae,Bool.not_eq_true',beq_iff_eq,AG]at hk;obtain⟨⟨⟨⟨⟨⟨⟨h1,h2⟩,h3⟩,h4⟩,h5⟩,h6⟩,EC⟩,h7⟩:=hk;obtain⟨EC,Ci⟩:s.ft= []∧s.lo= []:=by simpa using EC
  have Hx: ∀m∈s.cx,m= .ro:=fun m hm=>by
   have:=h4 m hm;split at this
   ·rfl
   ·cases this
  unfold Cw;rw [if_pos (S8 f s hs)];refine⟨s,hs,fn,hf,h1,h2,h3,by omega,by simp [EC],fun w vs rf lf Bh Ay hd _ Co Ev=> ?_⟩;obtain⟨hr,rfl⟩:=Ay.rd Ci Hx;refine(hc w vs rf Ev.1 Ev.2.1 hr).mono ?_;rintro e w' ⟨hm,v1,v2,f1,f2,rfl,Fc,DB,hb⟩;refine⟨_,rfl,⟨⟨.tup [y1,y2], [],f1++f2, [], [], [],rfl, ?_,D5.ko ?_ Hx,by simp,by simp,fun b Cd=>⟨by simp, ?_⟩⟩,hm⟩⟩
  ·split at h7
   ·rename_i t u ht;simp only [Ae,Bool.not_eq_true']at h7;rw [ht];refine⟨[v1,v2], [y1,y2],rfl,rfl, ?_⟩;have a1:E6 Tryz.prog w' t s.res v1 y1 f1 []:=by
     unfold E6;rw [if_neg (by rw [h7.1];simp)];exact⟨Fc,rfl⟩
    have a2:E6 Tryz.prog w' u (s.res.drop (A9 Tryz.prog t).length) v2 y2 f2 []:=by unfold E6;rw [if_neg (by rw [h7.2];simp)];exact⟨DB,rfl⟩
    have:=Jv.cons a1 (Jv.cons a2 (Jv.nil (P:=Tryz.prog) (w:=w') (fl:=(s.res.drop (A9 Tryz.prog t).length).drop (A9 Tryz.prog u).length)));simpa using this
   ·cases h7
  ·rw [hr.len];simp [EC];omega
  ·rcases hb b (by simpa using Cd)with h|h
   ·exact .inl h
   ·exact .inr (.inr h)
 ·cases hk
def mE (n:Int):Option (List UInt8):=some (Lib.itoa n)
theorem zy2 {w:World} (h:F6.K w):Lib.TabIs Tryz.prog w "internal/strconv.uint64pow10" .u64 Lib.pow10Tab:=by obtain⟨_,_,k⟩:=h;exact k.trans (by kernel_rfl)
theorem zDw (n:Int) (h0: -9223372036854775808≤n) (h1:n≤9223372036854775807):(Lib.itoa n).length≤9223372036854775807:=by
 have key: ∀(k u:Nat),u<10^k→(Lib.decDigits u).length≤k+1:=by
  intro k
  induction k with
  |zero=>intro u hu;rw [Lib.decDigits,dif_pos (by omega)];simp
  |succ k ih=>
   intro u hu;rw [Lib.decDigits];split
   ·simp
   ·rw [Ap,AH];have:=ih (u/10) (by rw [Nat.pow_succ]at hu;omega);omega
 unfold Lib.itoa;split
 ·rw [An];have:=key 20 n.natAbs (by omega);omega
 ·have:=key 20 n.toNat (by omega)
  omega
theorem XC {n:Int} (h:E7 .i64 n): -9223372036854775808≤n∧n≤9223372036854775807:=by unfold E7 at h;rw [IntKind.wrap_i64]at h;omega
theorem zzg (w:World) (k:Nat) (os:Array Obj):Mod [] w (grow (w.drewN k) os):=by
 refine⟨rfl,rfl,rfl, ?_,fun b hb _=> ?_⟩
 ·show w.heap.size≤(w.heap++os).size;rw [Array.size_append];omega
 ·show(w.heap++os)[b]?=w.heap[b]?;rw [Array.getElem?_append_left hb]
theorem zty (a0:Int) (r:List UInt8) (h:mE a0=some r):Cw Tryz.prog Cv 283 [.int .i64 a0] (.str r):=zyz (by kernel_rfl) fun w vs rf hK hr=>by obtain⟨us,rfl,hn,hr⟩:=WM hr;obtain⟨rfl,rfl⟩:=Mp hr;cases h;refine(Tryz.strconv_Itoa a0 (XC hn).1 (XC hn).2 w (zy2 hK)).mono ?_;rintro e w' ⟨rfl,k,os,rfl⟩;have hl:=zDw a0 (XC hn).1 (XC hn).2;exact⟨zzg w k os,_, [],rfl,by have:=Rd.str (w:=grow (w.drewN k) os) (s:=⟨(Lib.itoa a0).toArray⟩) (vs:= []) (xs:= []) (f:= []) (by show(Lib.itoa a0).toArray.size≤_;simpa using hl) .nil;simpa using this,by simp⟩
theorem zAQ (w:World) (ty:TypeId) (t:ByteArray):Mod [] w (Lib.bytesWorld w ty t):=Mod.fh (Lib.bytesWorld_below w ty t) (Nat.le_refl _)
theorem zys (a b c:Int) (w:World):Calls Tryz.prog 60 #[.int .i64 a, .int .i64 b, .int .i64 c] w fun e w'=>e= .returned (.bool (decide (a≥b)&&decide (a≤c)))∧w'=w:=by
 by_cases h1:a≥b
 ·go_enter Tryz.func60,Tryz.ntmps60
  go_wp2
  go_ret
  simp [h1]
 ·go_enter Tryz.func60,Tryz.ntmps60
  go_wp2
  go_ret
  simp;intro h;omega
def Og (s:List UInt8) (lo hi:Int):Int × Bool:=match Lib.atoiAll s with
 | .ok n=>if lo≤n∧n≤hi∧Lib.itoa n=s then(n,true)else(0,false)
 |_=>(0,false)
theorem zDn {s:ByteArray} {w:World} (hs:s.size≤281474976710656) (hK:F6.K w) (h: ∀v,Lib.atoiAll s.data.toList≠ .ok v):
  Calls Tryz.prog 320 #[.string s] w fun e w'=> ∃v te N,e= .returned (.tuple #[.int .i64 v, .iface te (.pointer (some ⟨N,0,none⟩))])∧Mod [] w w':=by
 obtain⟨⟨t1,p1,k1⟩,⟨t2,p2,k2⟩,_⟩:=hK;rcases hA:Lib.atoiAll s.data.toList with v|_|_
 ·exact absurd hA (h v)
 ·exact(Any.strconv_Atoi_syntax_var Tryz.gy s hs hA t1 p1 w k1).mono fun e w' ⟨N,he,_,_,hB⟩=>⟨_,_,_,he,Mod.fh hB (Nat.le_refl _)⟩
 ·exact(Any.strconv_Atoi_range_var Tryz.gy s hs hA t2 p2 w k2).mono fun e w' ⟨N,he,_,_,hB⟩=>⟨_,_,_,he,Mod.fh hB (Nat.le_refl _)⟩
theorem zBA {s:ByteArray} {lo hi:Int} {w:World} (hc:Calls Tryz.prog 320 #[.string s] w fun e w'=> ∃v te N,e= .returned (.tuple #[.int .i64 v, .iface te (.pointer (some ⟨N,0,none⟩))])∧Mod [] w w'):
  Calls Tryz.prog 301 #[.string s, .int .i64 lo, .int .i64 hi] w fun e w'=>e= .returned (.tuple #[.int .i64 0, .bool false])∧Mod [] w w':=by
 go_enter Tryz.func301,Tryz.ntmps301
 go_wp2_with (go_at_call 320;refine hc.mono ?_;rintro e w' ⟨v,te,N,rfl,hm⟩)
 go_ret2
 exact⟨rfl,hm⟩
section
variable (s:ByteArray) (n lo hi:Int) (w:World)
def To:Prop:=Calls Tryz.prog 320 #[.string s] w fun e w'=>e= .returned (.tuple #[.int .i64 n, .nilIface])∧Mod [] w w'
theorem zB6 (hA:To s n w) (hw: ∀W,Calls Tryz.prog 60 #[.int .i64 n, .int .i64 lo, .int .i64 hi] W fun e w'=>e= .returned (.bool false)∧w'=W):
  Calls Tryz.prog 301 #[.string s, .int .i64 lo, .int .i64 hi] w fun e w'=>e= .returned (.tuple #[.int .i64 0, .bool false])∧Mod [] w w':=by
 unfold To at hA
 go_enter Tryz.func301,Tryz.ntmps301
 go_wp2_with (first|(go_at_call 320;refine hA.mono ?_;rintro e W1 ⟨rfl,hm⟩)|(go_at_call 60;refine(hw _).mono ?_;rintro e W2 ⟨rfl,rfl⟩))
 go_ret2
 exact⟨rfl,hm⟩
theorem zAF (q:ByteArray) (hq:(q.toList==s.toList)=false) (hA:To s n w) (hw: ∀W,Calls Tryz.prog 60 #[.int .i64 n, .int .i64 lo, .int .i64 hi] W fun e w'=>e= .returned (.bool true)∧w'=W)
  (hI: ∀W1,Mod [] w W1→Calls Tryz.prog 283 #[.int .i64 n] W1 fun e w'=>e= .returned (.string q)∧Mod [] w w'):
  Calls Tryz.prog 301 #[.string s, .int .i64 lo, .int .i64 hi] w fun e w'=>e= .returned (.tuple #[.int .i64 0, .bool false])∧Mod [] w w':=by
 unfold To at hA
 go_enter Tryz.func301,Tryz.ntmps301
 go_wp2_with (first|(go_at_call 320;refine hA.mono ?_;rintro e W1 ⟨rfl,hm⟩)|(go_at_call 60;refine(hw _).mono ?_;rintro e W2 ⟨rfl,rfl⟩)|(go_at_call 283;refine(hI _ hm).mono ?_;rintro e W3 ⟨rfl,QL⟩))
 go_ret2
 exact⟨rfl,QL⟩
theorem zBz (hA:To s n w) (hw: ∀W,Calls Tryz.prog 60 #[.int .i64 n, .int .i64 lo, .int .i64 hi] W fun e w'=>e= .returned (.bool true)∧w'=W)
  (hI: ∀W1,Mod [] w W1→Calls Tryz.prog 283 #[.int .i64 n] W1 fun e w'=>e= .returned (.string s)∧Mod [] w w'):
  Calls Tryz.prog 301 #[.string s, .int .i64 lo, .int .i64 hi] w fun e w'=>e= .returned (.tuple #[.int .i64 n, .bool true])∧Mod [] w w':=by
 unfold To at hA
 go_enter Tryz.func301,Tryz.ntmps301
 go_wp2_with (first|(go_at_call 320;refine hA.mono ?_;rintro e W1 ⟨rfl,hm⟩)|(go_at_call 60;refine(hw _).mono ?_;rintro e W2 ⟨rfl,rfl⟩)|(go_at_call 283;refine(hI _ hm).mono ?_;rintro e W3 ⟨rfl,QL⟩))
 go_ret2
 exact⟨rfl,QL⟩
end
theorem zA5 (s:ByteArray) (lo hi:Int) (w:World) (hs:s.size≤281474976710656) (hN:F6.n≤w.heap.size) (hK:F6.K w):Calls Tryz.prog 301 #[.string s, .int .i64 lo, .int .i64 hi] w fun e w'=>e= .returned (.tuple #[.int .i64 (Og s.data.toList lo hi).1, .bool (Og s.data.toList lo hi).2])∧Mod [] w w':=by
 by_cases Aw: ∃n,Lib.atoiAll s.data.toList= .ok n
 ·obtain⟨n,hA⟩:=Aw;have hR:Og s.data.toList lo hi=if lo≤n∧n≤hi∧Lib.itoa n=s.data.toList then(n,true)else(0,false):=by
   unfold Og;rw [hA]
  rw [hR];obtain⟨b0,b1⟩:=Lib.atoiAll_bounds hA;have bO:Calls Tryz.prog 320 #[.string s] w fun e w'=>e= .returned (.tuple #[.int .i64 n, .nilIface])∧Mod [] w w':=by
   refine(Tryz.strconv_Atoi_ok s (by omega) n hA w).mono ?_;rintro e w' ⟨rfl,h|⟨t,h⟩⟩
   ·subst h;exact⟨rfl,Mod.refl _ _⟩
   ·subst h;exact⟨rfl,zAQ w _ t⟩
  have hI: ∀W1,Mod [] w W1→Calls Tryz.prog 283 #[.int .i64 n] W1 fun e w'=>e= .returned (.string ⟨(Lib.itoa n).toArray⟩)∧Mod [] w w':=by intro W1 hm;have bT:F6.K W1:=F6.mono (fun b hb=>hm.block b (Nat.lt_of_lt_of_le hb hN) (by simp)) hK;refine(Tryz.strconv_Itoa n b0 b1 W1 (zy2 bT)).mono ?_;rintro e w' ⟨rfl,k,os,rfl⟩;exact⟨rfl,hm.trans (zzg W1 k os) (by simp)⟩
  by_cases h1:n≥lo∧n≤hi
  ·have hw: ∀W,Calls Tryz.prog 60 #[.int .i64 n, .int .i64 lo, .int .i64 hi] W fun e w'=>e= .returned (.bool true)∧w'=W:=fun W=>by
    have:=zys n lo hi W;rwa [show(decide (n≥lo)&&decide (n≤hi))=true by simp [h1.1,h1.2]]at this
   by_cases h3:Lib.itoa n=s.data.toList
   ·have Fw:(⟨(Lib.itoa n).toArray⟩:ByteArray)=s:=by rw [h3]
    rw [Fw]at hI;simp only [if_pos (⟨h1.1,h1.2,h3⟩:lo≤n∧n≤hi∧Lib.itoa n=s.data.toList)];exact zBz s n lo hi w bO hw hI
   ·have Fw:((⟨(Lib.itoa n).toArray⟩:ByteArray).toList==s.toList)=false:=by
     rw [z8,beq_eq_false_iff_ne];exact h3
    simp only [if_neg (fun h:lo≤n∧n≤hi∧Lib.itoa n=s.data.toList=>h3 h.2.2)];exact zAF s n lo hi w _ Fw bO hw hI
  ·have hw: ∀W,Calls Tryz.prog 60 #[.int .i64 n, .int .i64 lo, .int .i64 hi] W fun e w'=>e= .returned (.bool false)∧w'=W:=fun W=>by
    have:=zys n lo hi W;rwa [show(decide (n≥lo)&&decide (n≤hi))=false by simp;omega]at this
   simp only [if_neg (fun h:lo≤n∧n≤hi∧Lib.itoa n=s.data.toList=>h1 ⟨h.1,h.2.1⟩)];exact zB6 s n lo hi w bO hw
 ·have hR:Og s.data.toList lo hi=(0,false):=by
   unfold Og;split
   ·rename_i n hn;exact absurd ⟨n,hn⟩ Aw
   ·rfl
  rw [hR];exact zBA (zDn hs hK fun v hv=>Aw ⟨v,hv⟩)
noncomputable def Y3 (s:List UInt8) (lo hi:Int):Option (Int × Bool):=req (s.length≤281474976710656) (some (Og s lo hi))
theorem zs8 (a0:List UInt8) (a1 a2:Int) (r:Int × Bool) (h:Y3 a0 a1 a2=some r):Cw Tryz.prog Cv 301 [.str a0, .int .i64 a1, .int .i64 a2] (.tup [.int .i64 r.1, .bool r.2]):=by
 obtain⟨hl,h⟩:=GV h;refine zEh (by kernel_rfl) fun w vs rf hN hK hr=> ?_;obtain⟨s,us,rfl,hs,hz,hr⟩:=ME hr;obtain⟨us1,rfl,_,hr⟩:=WM hr;obtain⟨us2,rfl,_,hr⟩:=WM hr;obtain⟨rfl,rfl⟩:=Mp hr;subst hs;cases h;refine(zA5 s a1 a2 w (by simpa using hl) hN hK).mono ?_;rintro e w' ⟨rfl,hm⟩;refine⟨hm,_,_, [], [],rfl, .int ?_ .nil, .bool .nil,by simp⟩;unfold Og;split
 ·rename_i n hn;have:=Lib.atoiAll_bounds hn;split
  ·exact A8 this.1 this.2
  ·exact A8 (by decide) (by decide)
 ·exact A8 (by decide) (by decide)
end Go.Proofs.YtbmbkgalkfmjdaaGreatDoor
end

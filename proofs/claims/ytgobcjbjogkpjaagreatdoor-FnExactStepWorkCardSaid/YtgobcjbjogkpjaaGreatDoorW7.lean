/- Parts of a proof, joined: DA, DB, MA, MB, OB, OG, QA, QO, MC, MD, QT, TF, HB, SP, HL, IA, IC, IB, RI. -/
import Derived.Test.YtgobcjbjogkpjaaGreatDoorW6
import Derived.Test.YtgobcjbjogkpjaaGreatDoorProg
import Derived.Test.YtgobcjbjogkpjaaGreatDoorChecked
import Derived.Shelf.Strings.Builder1
import Derived.Shelf.Strings.Builder2
import Derived.Shelf.Strings.OnBuilder
import Derived.Shelf.Small.Strs
import Derived.Shelf.Small.Wraps
import Derived.Shelf.Strings.BuilderF
import Derived.Shelf.Strings.BuilderK
import Derived.Shelf.Utf8.RuneCount
import Derived.Shelf.Strings.Builder2Cap
import Derived.Shelf.Strconv.Atoi
import Derived.Shelf.Strconv.Itoa0
import Derived.Shelf.Strconv.Itoa1
import Derived.Shelf.LaysM
import Derived.Shelf.Strconv.Itoa2
import Derived.Shelf.Strconv.Itoa3
import Derived.Shelf.Strconv.AtoiErrFast
import Derived.Shelf.Strconv.ParseIntEmpty
import Derived.Shelf.Strconv.AtoiFail
import Derived.Shelf.Strconv.Clone
import Derived.Shelf.Strconv.SyntaxError
import Derived.Shelf.LaysC
import Derived.Shelf.Strconv.ToError
import Derived.Shelf.Strconv.AtoiErr
import Derived.Shelf.Strconv.ErrVar
import Derived.Shelf.Strconv.Lower
import Derived.Shelf.Strconv.ParseUint10
import Derived.Shelf.Strconv.ParseUint10Empty
import Derived.Shelf.Strconv.ParseUint10Any
import Derived.Shelf.Strconv.ParseInt10
import Derived.Shelf.Strconv.AtoiLong
import Derived.Shelf.Strconv.AtoiInnerAll
import Derived.Shelf.Strconv.RangeError
import Derived.Shelf.Strconv.ToErrorRange
import Derived.Shelf.Strconv.AtoiAll
import Derived.Shelf.Strconv.ErrVarAll
import Derived.Shelf.Strconv.ParseUintEmpty
import Derived.Shelf.Strconv.ParseUint10b64
import Derived.Shelf.Strconv.ParseUint10b32
import Derived.Shelf.Strconv.ParseUint10b16
import Derived.Shelf.Strconv.ParseUint10b8
import Derived.Shelf.Strconv.ParseUint10At
import Derived.Shelf.Strconv.ParseInt10At64
import Derived.Shelf.Strconv.ParseInt10At32
import Derived.Shelf.Strconv.ParseInt10At16
import Derived.Shelf.Strconv.ParseInt10At8
import Derived.Shelf.Strconv.ParseInt10All
import Derived.Shelf.Strings.Search1
import Derived.Shelf.Strings.Search2
import Derived.Shelf.Strings.Search3
import Derived.Shelf.Strings.Cut
import Derived.Shelf.Strings.Count
import Derived.Shelf.Strings.Shaped
import Derived.Shelf.Strings.Prefix
import Derived.Shelf.Strings.Split
import Derived.Shelf.Strings.SplitShaped
import Derived.Shelf.Unicode.Decode
import Derived.Shelf.Strings.RuneCount
import Derived.Shelf.Strings.Explode
import Derived.Shelf.Unicode.DecodeSlow
import Derived.Shelf.Unicode.DecodeAny
import Derived.Shelf.Strings.BuilderCap
import Derived.Shelf.Slices.Turned
import Derived.Shelf.Slices.Equal
import Derived.Ground.Names2Prog
import Derived.Shelf.Slices.Clone
import Derived.Shelf.Slices.Empties2
import Derived.Ground.SlgnProg
import Derived.Shelf.SlicesE.Clone
import Derived.Laws.CopyRow
import Derived.Lib.AppendZerosOnto
import Derived.Lib.Overlaps
import Derived.Deep.RegionLaw
import Derived.StillTailTactics
import Derived.Deep.QuietTactic
import Derived.Sort.Grow
set_option linter.unusedVariables false
set_option linter.unusedSimpArgs false
section
namespace Go.Proofs.YtgobcjbjogkpjaaGreatDoor
open Go.RowKit
noncomputable def flT (t:TypeId):List Bool:=(zau Tryz.prog t).map fun u=>match zfF Tryz.prog u with|some e=>zdR Tryz.prog e|none=>false
noncomputable def zHS (u:TypeId):List Bool:=if u=130 then []else flT u
noncomputable def zI2 (fn:Func):Sig:={cq:=fn.params.toList.map fun t=>match zDV Tryz.prog t with|some u=> .bx (zHS u) (zHS u)|none=> .ro,res:=fn.resultTypes.toList.flatMap flT}
noncomputable def zH9 (f:Nat):Option Sig:=
 match f with
 |10=>some {cq:= [],res:= [false],dp:=true}
 |11=>some {cq:= [],res:= [false],dp:=true}
 |12=>some {cq:= [],res:= []}
 |18=>some {cq:= [],res:= []}
 |22=>some {cq:= [],res:= []}
 |31=>some {cq:= [],res:= []}
 |32=>some {cq:= [.ro, .ro],res:= [false,true,true,true,false,false],dp:=true}
 |46=>some {cq:= [],res:= []}
 |47=>some {cq:= [.ro, .ro, .ro],res:= [false,true,true,true,true,false],dp:=true}
 |48=>some {cq:= [.ro, .ro, .ro],res:= []}
 |49=>some {cq:= [],res:= []}
 |51=>some {cq:= [.ro, .ro, .ro, .ro, .ro],res:= [false,true,true,true,false],dp:=true}
 |55=>some {cq:= [],res:= [false,true,true,true],dp:=true}
 |56=>some {cq:= [],res:= [true],dp:=true}
 |60=>some {cq:= [.mu [false,true,true,true], .ro],res:= [],dp:=true}
 |61=>some {cq:= [.mu [true], .ro],res:= [],dp:=true}
 |62=>some {cq:= [.mu [true], .ro],res:= []}
 |67=>some {cq:= [.ro, .ro],res:= []}
 |68=>some {cq:= [],res:= [false,true,true,true,false,false,false,false],dp:=true}
 |70=>some {cq:= [.ro, .ro],res:= [false,true,true,true,false,false,false,false,false,false],dp:=true}
 |73=>some {cq:= [.mu [false,true,true,true,false,false,false,false], .ro],res:= [],dp:=true}
 |74=>some {cq:= [.mu [false,false,false,false,false,true,true], .ro],res:= []}
 |79=>some {cq:= [.bx [] []],res:= []}
 |92=>some {cq:= [.bx [] [], .ro, .ro],res:= []}
 |105=>some {cq:= [],res:= []}
 |106=>some {cq:= [.ro, .ro],res:= [false,true,true,true,false],dp:=true}
 |108=>some {cq:= [.ro, .ro],res:= [false,true,true,true,false],dp:=true}
 |131=>some {cq:= [.bx [] []],res:= [false,true,true,true],dp:=true,fz:=true}
 |132=>some {cq:= [.bx [] [], .ro, .ro],res:= [true]}
 |133=>some {cq:= [.bx [] [], .ro],res:= []}
 |134=>some {cq:= [.bx [] []],res:= [false,false,true,true],dp:=true}
 |135=>some {cq:= [.ro],res:= [false,true,true,true],dp:=true}
 |136=>some {cq:= [.ro, .ro, .ro],res:= []}
 |137=>some {cq:= [.ro],res:= [false,true,true,true],dp:=true}
 |147=>some {cq:= [],res:= [true],dp:=true}
 |155=>some {cq:= [.mu [true], .ro],res:= [],dp:=true}
 |156=>some {cq:= [.mu [true], .ro],res:= []}
 |157=>some {cq:= [.mu [true], .ro],res:= []}
 |158=>some {cq:= [.mu [true], .ro],res:= []}
 |164=>some {cq:= [.ro, .ro],res:= []}
 |168=>some {cq:= [.ro, .ro],res:= [false,true,true,true,false,false,false,false,false],dp:=true}
 |170=>some {cq:= [.mu [false,false,false,true,true], .ro],res:= []}
 |186=>some {cq:= [.ro, .ro, .bx [true] [true]],res:= [],ft:= [1000000044]}
 |194=>some {cq:= [.bx [] [], .ro, .ro],res:= []}
 |204=>some {cq:= [.ro, .ro],res:= []}
 |223=>some {cq:= [.ro, .ro],res:= [true],dp:=true}
 |227=>some {cq:= [.bx [] [], .ro],res:= []}
 |241=>some {cq:= [.mu [true], .ro],res:= []}
 |247=>some {cq:= [.ro, .ro],res:= []}
 |252=>some {cq:= [.ro, .ro],res:= [false,true,true,true,false,false,false,false,false],dp:=true}
 |253=>some {cq:= [.ro],res:= [false,true,true,true,false,false,false,false],dp:=true}
 |258=>some {cq:= [.mu [false,true,true], .ro],res:= []}
 |271=>some {cq:= [.va [true], .ro],res:= [true]}
 |272=>some {cq:= [.va [true], .ro],res:= [true],wn:=true}
 |287=>some {cq:= [.ro, .ro],res:= []}
 |315=>some {cq:= [.va [true], .ro],res:= [true],wn:=true,lo:= [false,true]}
 |316=>some {cq:= [.ro],res:= [true]}
 |319=>some {cq:= [.mu [true], .ro],res:= []}
 |329=>some {cq:= [.va [true], .ro, .va [true]],res:= [true]}
 |334=>some {cq:= [.va [true], .ro],res:= [true],wn:=true}
 |342=>some {cq:= [.ro, .ro, .ro, .ro],res:= []}
 |349=>some {cq:= [.ro, .ro],res:= [false],lo:= [false,true]}
 |386=>some {cq:= [.mu [true], .ro],res:= []}
 |388=>some {cq:= [.mu [true]],res:= []}
 |_=>none
noncomputable def zJo (f:Nat):Option Sig:=match Tryz.prog.funcs[f]? with
 |some fn=>some ((zH9 f).getD (zI2 fn))
 |none=>none
noncomputable def sgs:SgT:={f:=zJo}
theorem zIE:Tryz.prog.follows .mixedOrders=true:=by kernel_rfl
theorem zJH:Tryz.prog.funcs.size<1000000:=by
 have:(decide (Tryz.prog.funcs.size<1000000))=true:=by kernel_rfl
 exact of_decide_eq_true this
theorem zuV (f:Nat) (s:Sig) (h:sgs f=some s):f<1000000:=by
 simp only [sgs]at h
 unfold zJo at h
 split at h
 ·rename_i fn hf
  have:=(Array.getElem?_eq_some_iff.1 hf).1
  exact Nat.lt_trans this zJH
 ·cases h
def zII (P:Program) (sg:SgT) (f:Nat) (xs:List AV) (r:AV):Bool:=
 match P.funcs[f]?,sg f with
 |some fn,some s=> !(fn.name== "runtime.NumGoroutine")&&zmF P fn s r&&xs.length==fn.params.size+fn.nfree
 |_,_=>false
abbrev Den (t:Tr) (r:AV) (xs:List AV):Prop:=t.den (Rts Tryz.prog sgs) (fun r'=>r'=r) (fun _ _ _ _=>False) [] xs
theorem zho {f:Nat} {t:Tr} {xs:List AV} {r:AV} (hc:zH1 Tryz.prog sgs f=some t) (hk:zII Tryz.prog sgs f xs r=true) (hd:Den t r xs):Rts Tryz.prog sgs f xs r:=by
 unfold zII at hk
 split at hk
 ·rename_i fn s hf hs
  simp only [yqba,Bool.not_eq_true',beq_iff_eq]at hk
  unfold Rts
  rw [if_pos (zuV f s hs)]
  exact⟨s,hs,zES zIE zuV hf hs hk.1.1 hc hk.1.2 hk.2 hd⟩
 ·cases hk
section
variable {Rt:Nat→List AV→AV→Prop} {R:AV→Prop} {L:LK} {js:List JK} {ρ:List AV}
theorem zvn {i:EL} {b k:Tr} (hL:zsy L) (I:Nat→List AV→Prop) {m:Nat} (h0:I m (i.den ρ)) (hstep: ∀m vs,I m vs→b.den Rt R L ((fun us=> ∃m',m'<m∧I m' us)::(fun us=>k.den Rt R L js (ρ++us))::js) (ρ++vs)):(Tr.loop i b k).den Rt R L js ρ:=by
 have hb: ∀W W':JK,(∀vs,W vs→W' vs)→ ∀vs,b.den Rt R L (W::(fun us=>k.den Rt R L js (ρ++us))::js) (ρ++vs)→b.den Rt R L (W'::(fun us=>k.den Rt R L js (ρ++us))::js) (ρ++vs):=
  fun W W' hW vs hv=>b.gp hL hv (.cons hW (JLe.refl _))
 have mono: ∀n vs,zq9 (fun W vs=>b.den Rt R L (W::(fun us=>k.den Rt R L js (ρ++us))::js) (ρ++vs)) n vs→ ∀n',n≤n'→zq9 (fun W vs=>b.den Rt R L (W::(fun us=>k.den Rt R L js (ρ++us))::js) (ρ++vs)) n' vs:=by
  intro n
  induction n with
  |zero=>intro vs h;exact h.elim
  |succ n ih=>
   intro vs h n' hn
   cases n' with
   |zero=>omega
   |succ n'=>exact hb _ _ (fun us hu=>ih us hu n' (by omega)) vs h
 have key: ∀m vs,I m vs→zq9 (fun W vs=>b.den Rt R L (W::(fun us=>k.den Rt R L js (ρ++us))::js) (ρ++vs)) (m+1) vs:=by
  intro m
  induction m using Nat.strongRecOn with
  |_ m ih=>
   intro vs hI
   exact hb _ _ (fun us ⟨m',hm,hu⟩=>mono _ _ (ih m' hm us hu) m (by omega)) vs (hstep m vs hI)
 exact⟨m+1,key m _ h0⟩
theorem zmc:zsy (fun _ _ _ _=>False):=fun _ _ _ _ _ _ h=>h
end
@[simp] theorem zJp (ρ:List AV):zfS ρ []↔True:=⟨fun _=>trivial,fun _=>zcA ρ⟩
@[simp] theorem zI9 (ρ:List AV) (x:E) (b:Bool) (gs:Gd):zfS ρ ((x,b)::gs)↔x.den ρ= .bool b∧zfS ρ gs:=
 ⟨fun h=>⟨h (x,b) (by simp),fun g hg=>h g (by simp [hg])⟩,fun h g hg=>by rcases yqmc.1 hg with rfl|hg;exact h.1;exact h.2 g hg⟩
attribute [simp] E.den EL.den Cn.den AV.fld AV.proj AV.deref AV.len AV.slen AV.idx AV.nth AV.fj AV.jo AV.conv AV.bin AV.bbin AV.sbin AV.app AV.cy AV.rep
@[simp] theorem zHA (cs:List AV):(AV.agg cs).cells=cs:=rfl
@[simp] theorem zIq (k:IntKind) (n:Int):(AV.int k n).cells= [.int k n]:=rfl
@[simp] theorem zHv (b:Bool):(AV.bool b).cells= [.bool b]:=rfl
@[simp] theorem zHD (s:List UInt8):(AV.str s).cells= [.str s]:=rfl
@[simp] theorem zIH (xs:List AV):(AV.sl xs).cells= [.sl xs]:=rfl
@[simp] theorem zHx (k:IntKind) (n:Int):(AV.int k n).scalar=true:=rfl
@[simp] theorem zHc (b:Bool):(AV.bool b).scalar=true:=rfl
@[simp] theorem zHu (s:List UInt8):(AV.str s).scalar=true:=rfl
@[simp] theorem zIV (b c d:Bool):AV.cond (.bool b) (.bool c) (.bool d)= .bool (bif b then c else d):=by cases b<;>rfl
theorem zyc {y:AV} (h:y.scalar=true):y.cells= [y]:=by cases y<;>first|rfl|simp [AV.scalar]at h
theorem zaI {n:Int} (h1: -9223372036854775808≤n) (h2:n≤9223372036854775807):IntKind.i64.wrap n=n:=by
 rw [IntKind.wrap_i64];omega
end Go.Proofs.YtgobcjbjogkpjaaGreatDoor
end
section
namespace Go.Proofs.YtgobcjbjogkpjaaGreatDoor
open Go.RowKit
section
variable {Rt:Nat→List AV→AV→Prop} {R:AV→Prop} {L:LK} {js:List JK} {ρ:List AV}
theorem zaM {gs:Gd} {c:Cn} {k:Tr} (h:zfS ρ gs→c.den ρ) (hk:k.den Rt R L js ρ):(Tr.bu gs c k).den Rt R L js ρ:=⟨h,hk⟩
theorem zpc {gs:Gd} {f:Nat} {args:EL} {k:Tr} {r:AV} (h:zfS ρ gs→Rt f (args.den ρ) r) (hk:k.den Rt R L js (ρ++ [r])):(Tr.call gs (.inl f) args k).den Rt R L js ρ:=⟨r,h,hk⟩
theorem zoY {gs:Gd} {x:E} {args:EL} {k:Tr} {r:AV} (h:zfS ρ gs→ ∃g caps,x.den ρ= .fn g caps∧Rt (1000000+g) (args.den ρ++caps) r∧ ∀y∈r.cells,y.scalar=true) (hk:k.den Rt R L js (ρ++ [r])):(Tr.call gs (.inr x) args k).den Rt R L js ρ:=⟨r,h,hk⟩
theorem zdx {c:E} {a b:Tr} {t:Bool} (h:c.den ρ= .bool t) (ha:t=true→a.den Rt R L js ρ) (hb:t=false→b.den Rt R L js ρ):(Tr.ite c a b).den Rt R L js ρ:=⟨t,h,ha,hb⟩
theorem zie {r:E} (h:R (r.den ρ)):(Tr.ret r).den Rt R L js ρ:=h
theorem zkS {es:EL} {j:JK} (h:j (es.den ρ)):(Tr.jmp 0 es).den Rt R L (j::js) ρ:=h
theorem zrC {es:EL} {i j:JK} (h:j (es.den ρ)):(Tr.jmp 1 es).den Rt R L (i::j::js) ρ:=h
end
def zCh (cn:Nat) (xs:List AV):Prop:= ∀x∈xs,∃cs,x= .agg cs∧cs.length=cn
theorem zCh.at {cn:Nat} {xs:List AV} (h:zCh cn xs) {q:Nat} (hq:q<xs.length): ∃cs,xs[q]= .agg cs∧cs.length=cn:=h _ (List.getElem_mem hq)
section
variable {Rt:Nat→List AV→AV→Prop} {R:AV→Prop} {L:LK} {js:List JK} {ρ:List AV} {α β σ τ:Type}
theorem zH2 {x:E} {sz:Nat} {xs:List α} (f:α→AV) (hx:x.den ρ= .sl (xs.map f)) (hf: ∀y,(f y).cells.length=sz):Cn.den ρ (.issl x sz):=⟨_,hx,by simp [hf]⟩
theorem zG0 {x:E} {sz:Nat} {xs:List α} (f:α→AV) (hx:x.den ρ= .sl (xs.map f)) (hf: ∀y,(f y).cells.length=sz∧ ∀z∈(f y).cells,z.scalar=true):Cn.den ρ (.flatS x sz):=⟨_,hx,by simp only [List.mem_map];rintro _ ⟨y,_,rfl⟩;exact hf y⟩
end
@[simp] def zDt (n:Int):AV:= .int .i64 n
@[simp] def avB (b:Bool):AV:= .bool b
@[simp] def znM (x:List UInt8):AV:= .str x
attribute [simp] za7 zuY AV.sidx AV.aeq AV.leq AV.seq AV.sk AV.db AV.bytes AV.text
end Go.Proofs.YtgobcjbjogkpjaaGreatDoor
end
section
namespace Go.Proofs.YtgobcjbjogkpjaaGreatDoor
open Go.RowKit
section
variable {P:Program} {w:World}
theorem zhy.ji {ts:List TypeId} {vs:List Value} {xs:List AV} {rf lf hs:List Nat} (h:zhy P w ts [] [] vs xs rf lf hs): ∀(ms:List PM) (lo:List Bool),(∀m∈ms,m= .ro)→zhy P w ts ms lo vs xs rf lf hs:=by
 generalize hm:([]:List PM)=m0 at h
 generalize hn:([]:List Bool)=n0 at h
 induction h with
 |nil=>intro ms lo _;exact .nil
 |lent h1 _ _ _ _=>subst hn;cases h1
 | @cons t ts ms' lo' v vs x xs f h rf lf hs harg _ ih=>
  subst hm;subst hn
  intro ms lo hms
  refine .cons ?_ (ih rfl rfl ms.tail lo.tail fun m hm=>hms m (List.mem_of_mem_tail hm))
  have:ms.headD .ro= .ro:=by cases ms with|nil=>rfl|cons m ms=>exact hms m (by simp)
  rw [this];exact harg
 |free h1 _ ih=>
  subst hm;subst hn
  intro ms lo hms
  exact .free h1 (ih rfl rfl ms.tail lo.tail fun m hm=>hms m (List.mem_of_mem_tail hm))
theorem zeU.ji {ts:List TypeId} {ms:List PM} {vs:List Value} {Bs:List AV} {f o:List Nat} (h:zeU P w ts ms vs Bs f o) (hms: ∀m∈ms,m= .ro):zeU P w ts [] vs Bs f o:=by
 have hd: ∀{ms:List PM},(∀m∈ms,m= .ro)→ms.headD .ro= .ro:=by
  intro ms h;cases ms with|nil=>rfl|cons m ms=>exact h m (by simp)
 induction h with
 |nil=>exact .nil
 |ro _ _ ih=>exact .ro rfl (ih fun m hm=>hms m (List.mem_of_mem_tail hm))
 |va h9 _ _=>rw [hd hms]at h9;cases h9
 |mu h9 _ _ _ _=>rw [hd hms]at h9;cases h9
 |bx h9 _ _ _ _ _ _ _ _=>rw [hd hms]at h9;cases h9
end
noncomputable def zBq (f:Nat) (r:AV):Bool:=
 match Tryz.prog.funcs[f]?,sgs f with
 |some fn,some s=>s.cq.all (fun m=>match m with| .ro=>true|_=>false)&&s.ft.isEmpty&&(match fn.resultTypes.toList with| [t]=> !znI Tryz.prog t s.res|_=>false)&&zmF Tryz.prog fn {cq:= [],res:= []} r
 |_,_=>false
theorem zBP {f:Nat} {xs:List AV} {r:AV} (h:Rts Tryz.prog sgs f xs r) (hp:zBq f r=true):Rts Tryz.prog sgs (1000000+f) xs r:=by
 unfold zBq at hp
 split at hp
 ·rename_i fn s hf hs
  simp only [yqba,yqal]at hp
  obtain⟨⟨⟨h1,hft⟩,h2⟩,h3⟩:=hp
  have hft:s.ft= []:=by simpa using hft
  have hro: ∀m∈s.cq,m= .ro:=fun m hm=>by
   have:=h1 m hm
   split at this
   ·rfl
   ·cases this
  unfold Rts at h ⊢
  rw [if_pos (zuV f s hs)]at h
  rw [if_neg (by omega),Nat.add_sub_cancel_left]
  obtain⟨s',hs',fn',hf',hb,hn,_,hl,_,hc⟩:=h
  rw [hs]at hs';cases hs'
  rw [hf]at hf';cases hf'
  rw [hft]at hc
  refine⟨fn,hf,hb,hn,h3,hl,by simp,fun w vs rf lf hs' hargs hd hd2 hnd hpk=>(hc w vs rf lf hs' (hargs.ji _ _ hro) hd hd2 hnd hpk).mono ?_⟩
  rintro e w' ⟨v,rfl,⟨R,Bs,f1,o1,f2,o2,e1,e2,e3,e4,e5,e6⟩,hm⟩
  rw [hft]at e3
  refine⟨v,rfl,⟨R,Bs,f1,o1,f2,o2,e1, ?_,e3.ji hro,e4,e5,e6⟩,hm⟩
  unfold zDW at e2 ⊢
  split at h2
  ·rename_i t ht
   rw [ht]at e2 ⊢
   simp only at e2 ⊢
   unfold ztn at e2 ⊢
   have h2:znI Tryz.prog t s.res=false:=by simpa using h2
   rw [if_neg (by rw [h2];simp)]at e2
   rw [if_neg (by simp [znI])]
   exact e2
  ·cases h2
 ·cases hp
section
variable {Rt:Nat→List AV→AV→Prop} {R:AV→Prop} {L:LK} {js:List JK} {ρ:List AV}
theorem zAd {i:EL} {b k:Tr} (hL:zsy L) (n:Nat) (st:Nat→List AV) (J:Nat→Prop) (hJ:J 0) (h0:i.den ρ=st 0) (hb: ∀q,q≤n→J q→ ∀W:JK,(q<n→J (q+1)→W (st (q+1)))→b.den Rt R L (W::(fun us=>k.den Rt R L js (ρ++us))::js) (ρ++st q)):(Tr.loop i b k).den Rt R L js ρ:=by
 refine zvn hL (fun m vs=> ∃q,q+m=n∧vs=st q∧J q) (m:=n) ⟨0,by omega,h0,hJ⟩ ?_
 rintro m vs ⟨q,hq,rfl,hj⟩
 exact hb q (by omega) hj _ fun hlt hj'=>⟨m-1,by omega,q+1,by omega,rfl,hj'⟩
end
def zAl (cn:Nat):Tr:=
 .bu [] (.dfd (.len (.var 0)))<|
 .loop (.cons (.int .i64 (0)) .nil) (
  .bu [] (.dfd (.bin .lss (.var 2) (.len (.var 0))))<|
  .ite (.bin .lss (.var 2) (.len (.var 0))) (
  .bu [] (.inb (.var 2) (.var 0) cn)<|
  .call [] (.inr (.var 1)) (.cons (.fld (.idx (.var 0) (.var 2)) 0 cn true) .nil)<|
  .ite (.var 3) (
   .ret (.var 2)) (
   .bu [] (.dfd (.bin .add (.var 2) (.int .i64 (1))))<|
   .jmp 0 (.cons (.bin .add (.var 2) (.int .i64 (1))) .nil))) (
  .jmp 1 .nil)) (
  .ret (.int .i64 (-1)))
def zzs:Tr:=
 .bu [] (.dfd (.len (.var 0)))<|
 .loop (.cons (.int .i64 (0)) .nil) (
  .bu [] (.dfd (.bin .lss (.var 2) (.len (.var 0))))<|
  .ite (.bin .lss (.var 2) (.len (.var 0))) (
  .bu [] (.inb (.var 2) (.var 0) 1)<|
  .call [] (.inr (.var 1)) (.cons (.fld (.idx (.var 0) (.var 2)) 0 1 false) .nil)<|
  .ite (.var 3) (
   .ret (.var 2)) (
   .bu [] (.dfd (.bin .add (.var 2) (.int .i64 (1))))<|
   .jmp 0 (.cons (.bin .add (.var 2) (.int .i64 (1))) .nil))) (
  .jmp 1 .nil)) (
  .ret (.int .i64 (-1)))
def zqH {α:Type} (p:α→Option Bool):List α→Int→Option Int
 | [],_=>some (-1)
 |x::xs,i=>(p x).bind fun b=>if b=true then some i else zqH p xs (i+1)
noncomputable def za4 {α:Type} (xs:List α) (p:α→Option Bool):Option Int:=req (xs.length≤9223372036854775806) (zqH p xs 0)
noncomputable def za3 {α:Type} (xs:List α) (p:α→Option Bool):Option Bool:=(za4 xs p).bind fun i=>some (decide (i≥0))
noncomputable def znb {α:Type} (bytes:Nat) (xs:List α):Option (List α):=req ((xs.length:Int)*bytes≤140737488355328∧(xs.length:Int)≤140737488355328) (some xs)
theorem zxf {α:Type} {p:α→Option Bool} {l:List α} {r:Int} {q:Nat} (hq:q<l.length) (h:zqH p (l.drop q) q=some r): ∃b,p l[q]=some b∧(b=true→r=q)∧(b=false→zqH p (l.drop (q+1)) ((q+1:Nat):Int)=some r):=by
 rw [List.drop_eq_getElem_cons hq]at h
 obtain⟨b,hb,h⟩:=zrc h
 refine⟨b,hb, ?_, ?_⟩
 ·rintro rfl;simpa using h.symm
 ·rintro rfl;simpa using h
theorem zwu {α:Type} {av:α→AV} {l:List α} {p:α→Option Bool} {cn g:Nat} {caps:List AV} {r:Int} (hs: ∀x,∃cs,av x= .agg cs∧cs.length=cn) (h:za4 l p=some r) (hf: ∀x b,p x=some b→Rts Tryz.prog sgs (1000000+g) (av x::caps) (.bool b)):Den (zAl cn) (.int .i64 r) [.sl (l.map av), .fn g caps]:=by
 obtain⟨hn,h⟩:=zxK h
 unfold Den zAl
 refine zaM (by simp) ?_
 refine zAd zmc l.length (fun q=> [.int .i64 q]) (fun q=>zqH p (l.drop q) q=some r) (by simpa using h) (by simp) fun q hq hJ W hW=> ?_
 by_cases hlt:q<l.length
 ·obtain⟨cs,hc,hl⟩:=hs l[q]
  obtain⟨b,hb,hb1,hb2⟩:=zxf hlt hJ
  refine zaM (by simp [za7]) (zdx (t:=true) (by simp [za7,hlt]) (fun _=> ?_) (by simp))
  refine zaM (fun _=>⟨.i64,q,l.length,by simp,by omega,by simp,by omega,by simp [hlt,hc,hl]⟩) (zoY (r:= .bool b) (fun _=>⟨g,caps,by simp, ?_,by simp⟩) ?_)
  ·have:=hf l[q] b hb
   rw [hc]at this
   simpa [hlt,hc,←hl]using this
  ·cases b with
   |true=>exact zdx (t:=true) (by simp) (fun _=>zie (by simp [hb1 rfl])) (by simp)
   |false=>
    refine zdx (t:=false) (by simp) (by simp) fun _=>zaM (by simp [za7]) (zkS ?_)
    have:=hW hlt (hb2 rfl)
    simpa [za7,zaI (n:=(q:Int)+1) (by omega) (by omega)]using this
 ·have hqe:q=l.length:=by omega
  subst hqe
  have hr:r= -1:=by simpa [zqH]using hJ.symm
  refine zaM (by simp [za7]) (zdx (t:=false) (by simp [za7]) (by simp) fun _=>zrC ?_)
  exact zie (by simp [hr])
theorem zzU {α:Type} {av:α→AV} {l:List α} {p:α→Option Bool} {g:Nat} {caps:List AV} {r:Int} (hs: ∀x,(av x).cells= [av x]) (h:za4 l p=some r) (hf: ∀x b,p x=some b→Rts Tryz.prog sgs (1000000+g) (av x::caps) (.bool b)):Den zzs (.int .i64 r) [.sl (l.map av), .fn g caps]:=by
 obtain⟨hn,h⟩:=zxK h
 unfold Den zzs
 refine zaM (by simp) ?_
 refine zAd zmc l.length (fun q=> [.int .i64 q]) (fun q=>zqH p (l.drop q) q=some r) (by simpa using h) (by simp) fun q hq hJ W hW=> ?_
 by_cases hlt:q<l.length
 ·obtain⟨b,hb,hb1,hb2⟩:=zxf hlt hJ
  refine zaM (by simp [za7]) (zdx (t:=true) (by simp [za7,hlt]) (fun _=> ?_) (by simp))
  refine zaM (fun _=>⟨.i64,q,l.length,by simp,by omega,by simp,by omega,by simp [hlt,hs]⟩) (zoY (r:= .bool b) (fun _=>⟨g,caps,by simp, ?_,by simp⟩) ?_)
  ·have:=hf l[q] b hb
   simpa [hlt,hs]using this
  ·cases b with
   |true=>exact zdx (t:=true) (by simp) (fun _=>zie (by simp [hb1 rfl])) (by simp)
   |false=>
    refine zdx (t:=false) (by simp) (by simp) fun _=>zaM (by simp [za7]) (zkS ?_)
    have:=hW hlt (hb2 rfl)
    simpa [za7,zaI (n:=(q:Int)+1) (by omega) (by omega)]using this
 ·have hqe:q=l.length:=by omega
  subst hqe
  have hr:r= -1:=by simpa [zqH]using hJ.symm
  refine zaM (by simp [za7]) (zdx (t:=false) (by simp [za7]) (by simp) fun _=>zrC ?_)
  exact zie (by simp [hr])
def zAe (f:Nat):Tr:=
 .call [] (.inl f) (.cons (.var 0) (.cons (.var 1) .nil))<|
 .bu [] (.dfd (.bin .geq (.var 2) (.int .i64 (0))))<|
 .ret (.bin .geq (.var 2) (.int .i64 (0)))
theorem zvp {α:Type} {l:List α} {p:α→Option Bool} {f:Nat} {x y:AV} {r:Bool} (h:za3 l p=some r) (hf: ∀i,za4 l p=some i→Rts Tryz.prog sgs f [x,y] (.int .i64 i)):Den (zAe f) (.bool r) [x,y]:=by
 obtain⟨i,hi,h⟩:=zrc h
 unfold Den zAe
 refine zpc (fun _=>by simpa using hf i hi) (zaM (by simp [za7]) (zie ?_))
 simp only [yqsi]at h
 simp [za7,←h]
def zuL (bytes sz:Nat):Tr:=
 .bu [] (.dfd (.len (.var 0)))<|
 .cc [] (.var 0)<|
 .ite (.var 1) (
  .ret (.lst .nil)) (
  .bu [] (.room (.lst .nil) (.var 0) bytes)<|
  .bu [] (.flatS (.var 0) sz)<|
  .ret (.app (.lst .nil) (.var 0)))
def zyJ (bytes sz:Nat):Tr:=
 .bu [] (.dfd (.len (.var 0)))<|
 .cc [] (.var 0)<|
 .ite (.var 1) (
  .ret (.lst .nil)) (
  .bu [] (.room (.lst .nil) (.var 0) bytes)<|
  .bu [] (.issl (.var 0) sz)<|
  .ret (.app (.lst .nil) (.var 0)))
theorem zpm {α:Type} {av:α→AV} {xs r:List α} {bytes sz:Nat} (hs: ∀x,(av x).cells.length=sz∧ ∀z∈(av x).cells,z.scalar=true) (h:znb bytes xs=some r):Den (zuL bytes sz) (.sl (r.map av)) [.sl (xs.map av)]:=by
 obtain⟨hq,h⟩:=zxK h
 cases h
 unfold Den zuL
 refine zaM (by simp) fun b hb=> ?_
 cases b with
 |true=>
  have:=hb (by simp) rfl
  exact zdx (t:=true) (by simp) (fun _=>zie (by simpa using this.symm)) (by simp)
 |false=>exact zdx (t:=false) (by simp) (by simp) fun _=>zaM (fun _=>⟨0,xs.length,by simp,by simp,by simpa using hq.1,by simpa using hq.2⟩) (zaM (fun _=>zG0 (xs:=xs) av (by simp) hs) (zie (by simp)))
theorem zAK {α:Type} {av:α→AV} {xs r:List α} {bytes sz:Nat} (hs: ∀x,(av x).cells.length=sz) (h:znb bytes xs=some r):Den (zyJ bytes sz) (.sl (r.map av)) [.sl (xs.map av)]:=by
 obtain⟨hq,h⟩:=zxK h
 cases h
 unfold Den zyJ
 refine zaM (by simp) fun b hb=> ?_
 cases b with
 |true=>
  have:=hb (by simp) rfl
  exact zdx (t:=true) (by simp) (fun _=>zie (by simpa using this.symm)) (by simp)
 |false=>exact zdx (t:=false) (by simp) (by simp) fun _=>zaM (fun _=>⟨0,xs.length,by simp,by simp,by simpa using hq.1,by simpa using hq.2⟩) (zaM (fun _=>zH2 (xs:=xs) av (by simp) hs) (zie (by simp)))
end Go.Proofs.YtgobcjbjogkpjaaGreatDoor
end
section
namespace Go.Proofs.YtgobcjbjogkpjaaGreatDoor
open Go.ChangeShapes Go.WideShapes Go.ChangeAt Go.RowKit
theorem zED {P:Program} {w:World}:zhy P w [] [] [] [] [] [] [] []:= .nil
theorem zxr {P:Program} {w:World} {t:TypeId} {ts:List TypeId} {v:Value} {vs:List Value} {x:AV} {xs:List AV} {f rf:List Nat} (h:Rd w [v] [x] f) (k:zhy P w ts [] [] vs xs rf [] []):zhy P w (t::ts) [] [] (v::vs) (x::xs) (f++rf) [] []:=
 zhy.cons (h:= []) (hs:= []) (ms:= []) (lo:= []) ⟨h,rfl⟩ k
theorem zEI {P:Program} {sg:SgT} {f:Nat} {fn:Func} {t:TypeId} {xs:List AV} (h:Rts P sg f xs (.bool true)) (hf:f<1000000) {s:Sig} (hs:sg f=some s) (hft:s.ft= []) (hro: ∀m∈s.cq,m= .ro) (hfl:znI P t s.res=false) (hfn:P.funcs[f]?=some fn) (hr:fn.resultTypes.toList= [t])
  {w:World} {vs:List Value} {rf:List Nat} (ha:zhy P w fn.params.toList [] [] vs xs rf [] []) (hpk:pkW.n≤w.heap.size∧pkW.K w):
  Calls P f vs.toArray w fun e w'=>e= .returned (.bool true)∧Below w.heap.size w w':=by
 unfold Rts at h
 rw [if_pos hf]at h
 obtain⟨s',hs',fn',hfn',_,_,_,_,_,hc⟩:=h
 rw [hs]at hs'
 obtain rfl:=Option.some.inj hs'
 rw [hfn]at hfn'
 obtain rfl:=Option.some.inj hfn'
 refine(hc w vs rf [] [] (by rw [hft,List.append_nil];exact ha.ji _ _ hro) (by simp) (by simp) (by simp) ⟨hpk.1,hpk.2,by simp⟩).mono fun e w' ⟨v,he,hp⟩=> ?_
 obtain⟨⟨R,bs,f1,o1,f2,o2,hR,hres,_⟩,hm⟩:=hp
 have hRt:R= .bool true:=by
  cases bs with
  |nil=>exact hR.symm
  |cons=>cases hR
 subst hRt
 rw [hr]at hres
 have h2:ztn P w' t s.res v (.bool true) f1 o1:=hres
 unfold ztn at h2
 rw [hfl]at h2
 obtain⟨h3,_⟩:=h2
 have:v= .bool true:=by cases h3;rfl
 subst this
 exact⟨he,hm.below⟩
section
variable {P:Program} {t:TypeId} {Q:List AV→Prop} {H:Type} {enc:TypeId × Value→H} {w:World} {spare:Nat→Bool} {held:Bool} {v:Value} {d:DataW H} {p:List MemPlace} {r:Reach} {base:Nat}
theorem zuT {fs:Array Field} (hO:OpA P t Q) (ht:P.underlying t=some (.struct fs)) (hv:Value.okWide P w r base t v) (h:DataW.Trod enc P w 0 spare held t v d p): ∃xs f,Rd w [v] [.agg xs] f∧Q xs:=by
 obtain⟨n,h⟩:=h
 obtain⟨cs,rfl,_⟩:=okWide_struct ht hv
 obtain⟨_,h1,xs,f,hr,hq⟩:=hO.2 _ _ _ _ _ _ _ _ h
 refine⟨xs,f++ [], ?_,hq⟩
 have:=Rd.agg (w:=w) h1 hr .nil
 simpa [Value.cells]using this
end
theorem zIe {a b:Bool} (ha:a=true) (hb:b=true):(a&&b)=true:=by rw [ha,hb];rfl
def zo5 (n:Int):Prop:= -9223372036854775808≤n∧n≤9223372036854775807
def okB (_:Bool):Prop:=True
def zro (s:List UInt8):Prop:=s.length≤9223372036854775807
def okL {α:Type} (ok:α→Prop) (l:List α):Prop:=l.length≤9223372036854775807∧ ∀x∈l,ok x
theorem zIZ {n:Int} (h:InK .i64 n):zo5 n:=by
 unfold InK at h
 rw [IntKind.wrap_i64]at h
 unfold zo5
 omega
section
variable {P:Program} {t e:TypeId} {α:Type} {ok:α→Prop} {av:α→AV}
theorem zI4 (ht:P.underlying t=some (.int .i64)) (hc:P.cellsOf t=1):OpA P t fun xs=> ∃n,zo5 n∧xs= [zDt n]:=
 (zGi ht hc).mono fun _ ⟨n,h,e⟩=>⟨n,zIZ h,e⟩
theorem opB (ht:P.underlying t=some .bool) (hc:P.cellsOf t=1):OpA P t fun xs=> ∃b,okB b∧xs= [avB b]:=
 (zEc ht hc).mono fun _ ⟨b,e⟩=>⟨b,trivial,e⟩
theorem zJg (ht:P.underlying t=some .string) (hc:P.cellsOf t=1):OpA P t fun xs=> ∃s,zro s∧xs= [znM s]:=
 (zAJ ht hc).mono fun _ ⟨s,h,e⟩=>⟨s,h,e⟩
theorem zzW: ∀{ys:List AV},(∀y∈ys,ElA true (fun xs=> ∃c,ok c∧ .agg xs=av c) y)→ ∃l:List α,(∀c∈l,ok c)∧ys=l.map av
 | [],_=>⟨[],by simp,rfl⟩
 |y::ys,h=>by
  obtain⟨l,hl,rfl⟩:=zzW fun z hz=>h z (List.mem_cons_of_mem _ hz)
  have h0:=h y (List.mem_cons_self ..)
  simp only [ElA,if_true]at h0
  obtain⟨zs,rfl,c,hk,hc⟩:=h0
  exact⟨c::l,by simpa using⟨hk,hl⟩,by simp [hc]⟩
theorem zzZ: ∀{ys:List AV},(∀y∈ys,ElA false (fun xs=> ∃c,ok c∧xs= [av c]) y)→ ∃l:List α,(∀c∈l,ok c)∧ys=l.map av
 | [],_=>⟨[],by simp,rfl⟩
 |y::ys,h=>by
  obtain⟨l,hl,rfl⟩:=zzZ fun z hz=>h z (List.mem_cons_of_mem _ hz)
  have h0:=h y (List.mem_cons_self ..)
  simp only [ElA,yqft,if_false]at h0
  obtain⟨_,c,hk,hc⟩:=h0
  exact⟨c::l,by simpa using⟨hk,hl⟩,by simp at hc;simp [hc]⟩
theorem zGP (ht:P.underlying t=some (.slice e)) (hc:P.cellsOf t=1) (he:OpA P e fun xs=> ∃c,ok c∧ .agg xs=av c):OpA P t fun xs=> ∃l:List α,okL ok l∧xs= [.sl (l.map av)]:=
 (zwZ true ht hc he (.inl rfl)).mono fun _ ⟨ys,hl,hy,e⟩=>by
  obtain⟨l,hk,rfl⟩:=zzW hy
  exact⟨l,⟨by simpa using hl,hk⟩,e⟩
theorem zIm (ht:P.underlying t=some (.slice e)) (hc:P.cellsOf t=1) (he1:P.cellsOf e=1) (he:OpA P e fun xs=> ∃c,ok c∧xs= [av c]):OpA P t fun xs=> ∃l:List α,okL ok l∧xs= [.sl (l.map av)]:=
 (zwZ false ht hc he (.inr he1)).mono fun _ ⟨ys,hl,hy,e⟩=>by
  obtain⟨l,hk,rfl⟩:=zzZ hy
  exact⟨l,⟨by simpa using hl,hk⟩,e⟩
end
end Go.Proofs.YtgobcjbjogkpjaaGreatDoor
end
section
namespace Go.Proofs.YtgobcjbjogkpjaaGreatDoor
open Go.RowKit
set_option maxRecDepth 100000
structure zaa where
 ae:List UInt8
 az:List UInt8
 bd:Bool
@[simp] def zsl (x:zaa):AV:= .agg [.str x.ae, .str x.az, .bool x.bd]
structure zbh where
 ab:List UInt8
 bj:Int
 al:Int
@[simp] def zFl (x:zbh):AV:= .agg [.str x.ab, .int .i64 x.bj, .int .i64 x.al]
structure zab where
 ab:List UInt8
 ao:List (List UInt8)
 af:List zbh
@[simp] def ztc (x:zab):AV:= .agg [.str x.ab, .sl (x.ao.map znM), .sl (x.af.map zFl)]
structure zai where
 ab:List UInt8
 ak:List zab
 bm:List Int
 ay:List zaa
@[simp] def zCx (x:zai):AV:= .agg [.str x.ab, .sl (x.ak.map ztc), .sl (x.bm.map zDt), .sl (x.ay.map zsl)]
structure zaK where
 aq:List UInt8
 br:Bool
@[simp] def zF4 (x:zaK):AV:= .agg [.str x.aq, .bool x.br]
structure zaJ where
 ah:zai
 c8:zaK
 bf:zaK
@[simp] def zBR (x:zaJ):AV:= .agg [.str x.ah.ab, .sl (x.ah.ak.map ztc), .sl (x.ah.bm.map zDt), .sl (x.ah.ay.map zsl), .str x.c8.aq, .bool x.c8.br, .str x.bf.aq, .bool x.bf.br]
structure zch where
 au:List (List UInt8)
@[simp] def zIx (x:zch):AV:= .agg [.sl (x.au.map znM)]
structure zao where
 aj:Int
 bg:zch
 bh:zch
@[simp] def zAc (x:zao):AV:= .agg [.int .i64 x.aj, .sl (x.bg.au.map znM), .sl (x.bh.au.map znM)]
structure zax where
 ax:Int
 bb:Int
 aw:zao
@[simp] def zuH (x:zax):AV:= .agg [.int .i64 x.ax, .int .i64 x.bb, .int .i64 x.aw.aj, .sl (x.aw.bg.au.map znM), .sl (x.aw.bh.au.map znM)]
structure zaw where
 aj:Int
 bt:Int
 aw:zax
@[simp] def zrV (x:zaw):AV:= .agg [.int .i64 x.aj, .int .i64 x.bt, .int .i64 x.aw.ax, .int .i64 x.aw.bb, .int .i64 x.aw.aw.aj, .sl (x.aw.aw.bg.au.map znM), .sl (x.aw.aw.bh.au.map znM)]
structure DOp where
 aj:Int
 ae:List UInt8
 az:List UInt8
 jm:Int
@[simp] def zJt (x:DOp):AV:= .agg [.int .i64 x.aj, .str x.ae, .str x.az, .int .i64 x.jm]
structure zh6 where
 ae:List UInt8
 az:List UInt8
 fc:Bool
@[simp] def zIP (x:zh6):AV:= .agg [.str x.ae, .str x.az, .bool x.fc]
structure zdk where
 a8:List UInt8
 cg:List DOp
@[simp] def zIl (x:zdk):AV:= .agg [.str x.a8, .sl (x.cg.map zJt)]
end Go.Proofs.YtgobcjbjogkpjaaGreatDoor
end
section
namespace Go.Proofs.YtgobcjbjogkpjaaGreatDoor
open Go.ChangeShapes Go.WideShapes Go.ChangeAt Go.RowKit
set_option maxRecDepth 100000
theorem op2:OpA Tryz.prog 9 fun xs=> ∃s,zro s∧xs= [znM s]:=zJg Tryz.underlying9 (by kernel_rfl)
theorem op5:OpA Tryz.prog 23 fun xs=> ∃l:List (List UInt8),okL zro l∧xs= [.sl (l.map znM)]:=zIm Tryz.underlying23 (by kernel_rfl) (by kernel_rfl) op2
theorem op8:OpA Tryz.prog 3 fun xs=> ∃n,zo5 n∧xs= [zDt n]:=zI4 Tryz.underlying3 (by kernel_rfl)
def zCY (x:zbh):Prop:=zro x.ab∧zo5 x.bj∧zo5 x.al
theorem op7:OpA Tryz.prog 341 fun xs=> ∃x:zbh,zCY x∧ .agg xs=zFl x:=
 (zfD Tryz.underlying341 (by decide+kernel) (by kernel_rfl) (.cons op2 (.cons op8 (.cons op8 .nil)))).mono fun _ ⟨_,_,e0,⟨x0,k0,h0⟩,_,_,e1,⟨x1,k1,h1⟩,_,_,e2,⟨x2,k2,h2⟩,hz⟩=>by
  subst h2 hz e2 h1 e1 h0 e0
  exact⟨⟨x0,x1,x2⟩,⟨k0,k1,k2⟩,by simp⟩
theorem op6:OpA Tryz.prog 249 fun xs=> ∃l:List zbh,okL zCY l∧xs= [.sl (l.map zFl)]:=zGP Tryz.underlying249 (by kernel_rfl) op7
def zsB (x:zab):Prop:=zro x.ab∧(okL zro) x.ao∧(okL zCY) x.af
theorem op4:OpA Tryz.prog 251 fun xs=> ∃x:zab,zsB x∧ .agg xs=ztc x:=
 (zfD Tryz.underlying251 (by decide+kernel) (by kernel_rfl) (.cons op2 (.cons op5 (.cons op6 .nil)))).mono fun _ ⟨_,_,e0,⟨x0,k0,h0⟩,_,_,e1,⟨x1,k1,h1⟩,_,_,e2,⟨x2,k2,h2⟩,hz⟩=>by
  subst h2 hz e2 h1 e1 h0 e0
  exact⟨⟨x0,x1,x2⟩,⟨k0,k1,k2⟩,by simp⟩
theorem op3:OpA Tryz.prog 86 fun xs=> ∃l:List zab,okL zsB l∧xs= [.sl (l.map ztc)]:=zGP Tryz.underlying86 (by kernel_rfl) op4
theorem op9:OpA Tryz.prog 59 fun xs=> ∃l:List Int,okL zo5 l∧xs= [.sl (l.map zDt)]:=zIm Tryz.underlying59 (by kernel_rfl) (by kernel_rfl) op8
theorem zJj:OpA Tryz.prog 4 fun xs=> ∃b,okB b∧xs= [avB b]:=opB Tryz.underlying4 (by kernel_rfl)
def zse (x:zaa):Prop:=zro x.ae∧zro x.az∧okB x.bd
theorem zJE:OpA Tryz.prog 253 fun xs=> ∃x:zaa,zse x∧ .agg xs=zsl x:=
 (zfD Tryz.underlying253 (by decide+kernel) (by kernel_rfl) (.cons op2 (.cons op2 (.cons zJj .nil)))).mono fun _ ⟨_,_,e0,⟨x0,k0,h0⟩,_,_,e1,⟨x1,k1,h1⟩,_,_,e2,⟨x2,k2,h2⟩,hz⟩=>by
  subst h2 hz e2 h1 e1 h0 e0
  exact⟨⟨x0,x1,x2⟩,⟨k0,k1,k2⟩,by simp⟩
theorem zJB:OpA Tryz.prog 87 fun xs=> ∃l:List zaa,okL zse l∧xs= [.sl (l.map zsl)]:=zGP Tryz.underlying87 (by kernel_rfl) zJE
def zyQ (x:zai):Prop:=zro x.ab∧(okL zsB) x.ak∧(okL zo5) x.bm∧(okL zse) x.ay
theorem op1:OpA Tryz.prog 89 fun xs=> ∃x:zai,zyQ x∧ .agg xs=zCx x:=
 (zfD Tryz.underlying89 (by decide+kernel) (by kernel_rfl) (.cons op2 (.cons op3 (.cons op9 (.cons zJB .nil))))).mono fun _ ⟨_,_,e0,⟨x0,k0,h0⟩,_,_,e1,⟨x1,k1,h1⟩,_,_,e2,⟨x2,k2,h2⟩,_,_,e3,⟨x3,k3,h3⟩,hz⟩=>by
  subst h3 hz e3 h2 e2 h1 e1 h0 e0
  exact⟨⟨x0,x1,x2,x3⟩,⟨k0,k1,k2,k3⟩,by simp⟩
def zzT (x:zaK):Prop:=zro x.aq∧okB x.br
theorem zJl:OpA Tryz.prog 101 fun xs=> ∃x:zaK,zzT x∧ .agg xs=zF4 x:=
 (zfD Tryz.underlying101 (by decide+kernel) (by kernel_rfl) (.cons op2 (.cons zJj .nil))).mono fun _ ⟨_,_,e0,⟨x0,k0,h0⟩,_,_,e1,⟨x1,k1,h1⟩,hz⟩=>by
  subst h1 hz e1 h0 e0
  exact⟨⟨x0,x1⟩,⟨k0,k1⟩,by simp⟩
def zCG (x:zaJ):Prop:=zyQ x.ah∧zzT x.c8∧zzT x.bf
theorem op0:OpA Tryz.prog 103 fun xs=> ∃x:zaJ,zCG x∧ .agg xs=zBR x:=
 (zfD Tryz.underlying103 (by decide+kernel) (by kernel_rfl) (.cons op1 (.cons zJl (.cons zJl .nil)))).mono fun _ ⟨_,_,e0,⟨x0,k0,h0⟩,_,_,e1,⟨x1,k1,h1⟩,_,_,e2,⟨x2,k2,h2⟩,hz⟩=>by
  have g2:=AV.agg.inj h2
  have g1:=AV.agg.inj h1
  have g0:=AV.agg.inj h0
  subst g2 hz e2 g1 e1 g0 e0
  exact⟨⟨x0,x1,x2⟩,⟨k0,k1,k2⟩,by simp⟩
def zEk (x:zch):Prop:=(okL zro) x.au
theorem zJm:OpA Tryz.prog 104 fun xs=> ∃x:zch,zEk x∧ .agg xs=zIx x:=
 (zfD Tryz.underlying104 (by decide+kernel) (by kernel_rfl) (.cons op5 .nil)).mono fun _ ⟨_,_,e0,⟨x0,k0,h0⟩,hz⟩=>by
  subst h0 hz e0
  exact⟨⟨x0⟩,k0,by simp⟩
def zvB (x:zao):Prop:=zo5 x.aj∧zEk x.bg∧zEk x.bh
theorem zJy:OpA Tryz.prog 106 fun xs=> ∃x:zao,zvB x∧ .agg xs=zAc x:=
 (zfD Tryz.underlying106 (by decide+kernel) (by kernel_rfl) (.cons op8 (.cons zJm (.cons zJm .nil)))).mono fun _ ⟨_,_,e0,⟨x0,k0,h0⟩,_,_,e1,⟨x1,k1,h1⟩,_,_,e2,⟨x2,k2,h2⟩,hz⟩=>by
  have g2:=AV.agg.inj h2
  have g1:=AV.agg.inj h1
  subst g2 hz e2 g1 e1 h0 e0
  exact⟨⟨x0,x1,x2⟩,⟨k0,k1,k2⟩,by simp⟩
def zqn (x:zax):Prop:=zo5 x.ax∧zo5 x.bb∧zvB x.aw
theorem zJz:OpA Tryz.prog 108 fun xs=> ∃x:zax,zqn x∧ .agg xs=zuH x:=
 (zfD Tryz.underlying108 (by decide+kernel) (by kernel_rfl) (.cons op8 (.cons op8 (.cons zJy .nil)))).mono fun _ ⟨_,_,e0,⟨x0,k0,h0⟩,_,_,e1,⟨x1,k1,h1⟩,_,_,e2,⟨x2,k2,h2⟩,hz⟩=>by
  have g2:=AV.agg.inj h2
  subst g2 hz e2 h1 e1 h0 e0
  exact⟨⟨x0,x1,x2⟩,⟨k0,k1,k2⟩,by simp⟩
def zsX (x:zaw):Prop:=zo5 x.aj∧zo5 x.bt∧zqn x.aw
theorem zJx:OpA Tryz.prog 110 fun xs=> ∃x:zaw,zsX x∧ .agg xs=zrV x:=
 (zfD Tryz.underlying110 (by decide+kernel) (by kernel_rfl) (.cons op8 (.cons op8 (.cons zJz .nil)))).mono fun _ ⟨_,_,e0,⟨x0,k0,h0⟩,_,_,e1,⟨x1,k1,h1⟩,_,_,e2,⟨x2,k2,h2⟩,hz⟩=>by
  have g2:=AV.agg.inj h2
  subst g2 hz e2 h1 e1 h0 e0
  exact⟨⟨x0,x1,x2⟩,⟨k0,k1,k2⟩,by simp⟩
end Go.Proofs.YtgobcjbjogkpjaaGreatDoor
end
section
namespace Go.Proofs.YtgobcjbjogkpjaaGreatDoor
open Go.RowKit
set_option maxRecDepth 100000
def zjt {α:Type} (p:α→Option Bool):List α→Option (List α)
 | []=>some []
 |x::xs=>(p x).bind fun b=>(zjt p xs).bind fun r=>some (if b=true then r else x::r)
noncomputable def zcu {α:Type} (xs:List α) (p:α→Option Bool):Option (List α):=req (xs.length≤9223372036854775806) (zjt p xs)
theorem zns {α:Type} {p:α→Option Bool} (q:α→Bool): ∀{l:List α},(∀x∈l,p x=some (q x))→zjt p l=some (l.filter fun x=> !q x)
 | [],_=>rfl
 |x::l,h=>by
  have e:=zns (p:=p) q (l:=l) fun y hy=>h y (List.mem_cons_of_mem _ hy)
  simp only [zjt,h x (by simp),e,yqob,List.filter_cons]
  cases q x<;>rfl
theorem zqJ {α:Type} {p:α→Option Bool} {l r:List α} {q:Nat} (hq:q<l.length) (h:zjt p (l.drop q)=some r): ∃b r',p l[q]=some b∧zjt p (l.drop (q+1))=some r'∧r=if b=true then r' else l[q]::r':=by
 rw [List.drop_eq_getElem_cons hq]at h
 obtain⟨b,hb,h⟩:=zrc h
 obtain⟨r',hr,h⟩:=zrc h
 exact⟨b,r',hb,hr,by simpa using h.symm⟩
theorem zn9 {α:Type} {p:α→Option Bool}: ∀{l r:List α} (i:Int),zjt p l=some r→(zqH p l i=some (-1)∧r=l)∨ ∃k r',k<l.length∧zqH p l i=some (i+(k:Nat))∧zjt p (l.drop (k+1))=some r'∧r=l.take k++r'
 | [],r,i,h=>by cases h;exact .inl ⟨rfl,rfl⟩
 |x::l,r,i,h=>by
  obtain⟨b,hb,h⟩:=zrc h
  obtain⟨r1,hr,h⟩:=zrc h
  cases b with
  |true=>
   have:r1=r:=by simpa using h
   subst this
   exact .inr ⟨0,r1,by simp,by simp [zqH,hb],by simpa using hr,by simp⟩
  |false=>
   have:r=x::r1:=by simpa using h.symm
   subst this
   rcases zn9 (i+1) hr with⟨h1,rfl⟩|⟨k,r',h1,h2,h3,rfl⟩
   ·exact .inl ⟨by simp [zqH,hb,h1],rfl⟩
   ·exact .inr ⟨k+1,r',by simp;omega,by simp [zqH,hb,h2];omega,by simpa using h3,by simp⟩
def zGA (ck:List Cn) (k:Tr):Tr:=ck.foldr (fun c k=> .bu [] c k) k
section
variable {Rt:Nat→List AV→AV→Prop} {R:AV→Prop} {L:LK} {js:List JK} {ρ:List AV}
theorem zwG: ∀{ck:List Cn} {k:Tr},(∀c∈ck,c.den ρ)→k.den Rt R L js ρ→(zGA ck k).den Rt R L js ρ
 | [],_,_,hk=>hk
 |c::ck,k,h,hk=>⟨fun _=>h c (by simp),zwG (fun q hq=>h q (by simp [hq])) hk⟩
theorem zzt {t k:Tr} {K:List AV→Prop} (hK: ∀vs,K vs→k.den Rt R L js (ρ++vs)) (ht: ∀j:JK,(∀vs,K vs→j vs)→t.den Rt R L (j::js) ρ):(Tr.join t k).den Rt R L js ρ:=ht _ hK
end
def zEJ (fi cn:Nat) (g:Bool) (X:E) (ck:List Cn) (z:E):Tr:=
 .call [] (.inl fi) (.cons (.var 0) (.cons (.var 1) .nil))<|
 .bu [] (.dfd (.bin .eql (.var 2) (.int .i64 (-1))))<|
 .ite (.bin .eql (.var 2) (.int .i64 (-1))) (
  .ret (.var 0)) (
  .bu [] (.dfd (.bin .add (.var 2) (.int .i64 (1))))<|
  .loop (.cons (.var 2) (.cons (.bin .add (.var 2) (.int .i64 (1))) (.cons (.var 0) .nil))) (
  .bu [] (.dfd (.len (.var 5)))<|
  .bu [] (.dfd (.bin .lss (.var 4) (.len (.var 5))))<|
  .ite (.bin .lss (.var 4) (.len (.var 5))) (
   .join (
   .bu [] (.inb (.var 4) (.var 5) cn)<|
   zGA ck<|
   .call [] (.inr (.var 1)) (.cons X .nil)<|
   .bu [] (.dfd (.not (.var 6)))<|
   .ite (.not (.var 6)) (
    .bu [] (.inb (.var 3) (.var 5) cn)<|
    .bu [] (.flat X cn g)<|
    .bu [] (.flat (.fld (.idx (.var 5) (.var 3)) 0 cn g) cn g)<|
    .bu [] (.dfd (.bin .add (.var 3) (.int .i64 (1))))<|
    .jmp 0 (.cons (.bin .add (.var 3) (.int .i64 (1))) (.cons (.set (.var 5) (.var 3) (.put (.idx (.var 5) (.var 3)) 0 X g)) .nil))) (
    .jmp 0 (.cons (.var 3) (.cons (.var 5) .nil)))) (
   .bu [] (.dfd (.bin .add (.var 4) (.int .i64 (1))))<|
   .jmp 0 (.cons (.var 6) (.cons (.bin .add (.var 4) (.int .i64 (1))) (.cons (.var 7) .nil))))) (
   .jmp 1 (.cons (.var 3) (.cons (.var 5) .nil)))) (
  .bu [] (.win (.var 4) (.var 3) (.len (.var 4)))<|
  .bu [] (.win (.var 4) (.var 3) (.len (.var 4)))<|
  .bu [] (.dfd (.bin .sub (.len (.var 4)) (.var 3)))<|
  .bu [] (.win (.app (.win (.var 4) (.int .i64 (0)) (.var 3)) (.rep (.bin .sub (.len (.var 4)) (.var 3)) z)) (.int .i64 (0)) (.var 3))<|
  .ret (.win (.app (.win (.var 4) (.int .i64 (0)) (.var 3)) (.rep (.bin .sub (.len (.var 4)) (.var 3)) z)) (.int .i64 (0)) (.var 3))))
theorem zBn {α:Type} {av:α→AV} {l r:List α} {p:α→Option Bool} {fi cn g9:Nat} {g:Bool} {X z:E} {ck:List Cn} {caps:List AV}
  (hs: ∀x,(av x).cells.length=cn∧(∀z∈(av x).cells,z.scalar=true)∧(g=true→ ∃cs,av x= .agg cs)∧(g=false→(av x).scalar=true)) (hcn:0<cn)
  (hX: ∀(a b c d:AV) (j:Nat) (ys:List AV) (x:α) (tl:List AV),ys[j]?=some (av x)→X.den ([a,b,c,d, .int .i64 j, .sl ys]++tl)=av x)
  (hck: ∀(a b c d:AV) (j:Nat) (ys:List AV) (x:α),ys[j]?=some (av x)→ ∀q∈ck,q.den [a,b,c,d, .int .i64 j, .sl ys])
  (h:zcu l p=some r) (hi: ∀i,za4 l p=some i→Rts Tryz.prog sgs fi [.sl (l.map av), .fn g9 caps] (.int .i64 i))
  (hf: ∀x b,p x=some b→Rts Tryz.prog sgs (1000000+g9) (av x::caps) (.bool b)):Den (zEJ fi cn g X ck z) (.sl (r.map av)) [.sl (l.map av), .fn g9 caps]:=by
 obtain⟨hn,h⟩:=zxK h
 unfold Den zEJ
 have hput: ∀x y:α,(av y).db 0 (av x) g=av x:=by
  intro x y
  cases g with
  |false=>rfl
  |true=>
   obtain⟨cs,hcs⟩:=(hs x).2.2.1 rfl
   have e1:=(hs x).1
   have e2:=(hs y).1
   have e3:(av x).cells=cs:=by rw [hcs];rfl
   have e4:(av y).cells.drop (0+cs.length)= []:=List.drop_eq_nil_of_le (by rw [e2,←e1,e3];omega)
   show AV.agg ((av y).cells.take 0++(av x).cells++(av y).cells.drop (0+(av x).cells.length))=av x
   rw [e3,e4,List.append_nil,List.take_zero,List.nil_append,hcs]
 have hfld: ∀x:α,(av x).fld 0 cn g=av x:=by
  intro x
  cases g with
  |false=>
   have:=zyc ((hs x).2.2.2 rfl)
   simp [AV.fld,this]
  |true=>
   obtain⟨cs,hcs⟩:=(hs x).2.2.1 rfl
   have e1:=(hs x).1
   rw [hcs]at e1 ⊢
   simp only [AV.fld,if_true,AV.cells]at e1 ⊢
   rw [List.drop_zero,List.take_of_length_le (by omega)]
 have hflat: ∀(e:E) (ρ:List AV) (x:α),e.den ρ=av x→Cn.den ρ (.flat e cn g):=fun e ρ x he=>by
  show(e.den ρ).cells.length=cn∧(∀y∈(e.den ρ).cells,y.scalar=true)∧(g=true→ ∃cs,e.den ρ= .agg cs)∧(g=false→(e.den ρ).scalar=true)
  rw [he];exact hs x
 rcases zn9 0 h with⟨h1,rfl⟩|⟨k0,r0,hk0,h1,h2,rfl⟩
 ·refine zpc (r:= .int .i64 (-1)) (fun _=>hi _ (by unfold za4;rw [show req (r.length≤9223372036854775806) (zqH p r 0)=zqH p r 0 from if_pos hn];exact h1)) ?_
  exact zaM (by simp [za7]) (zdx (t:=true) (by simp [za7]) (fun _=>zie (by simp)) (by simp))
 ·refine zpc (r:= .int .i64 k0) (fun _=>hi _ (by unfold za4;rw [show req (l.length≤9223372036854775806) (zqH p l 0)=zqH p l 0 from if_pos hn,h1];simp)) ?_
  have hw:IntKind.i64.wrap ((k0:Int)+1)=k0+1:=zaI (by omega) (by omega)
  refine zaM (by simp [za7]) (zdx (t:=false) (by simp [za7];try omega) (by simp) fun _=>zaM (by simp [za7]) ?_)
  refine zvn zmc (fun m vs=> ∃(j:Nat) (K zs r':List α),j+m=l.length∧vs= [.int .i64 K.length, .int .i64 j, .sl (zs.map av)]∧K.length<j∧zs.length=l.length∧zs.take K.length=K∧zs.drop j=l.drop j∧zjt p (l.drop j)=some r'∧l.take k0++r0=K++r') (m:=l.length-(k0+1))
   ⟨k0+1,l.take k0,l,r0,by omega, ?_,by simp;omega,rfl,by simp [Nat.min_eq_left (Nat.le_of_lt hk0)],rfl,h2,rfl⟩ ?_
  ·simp [za7,hw,Nat.min_eq_left (Nat.le_of_lt hk0)]
  rintro m vs ⟨j,K,zs,r',hj,rfl,hKj,hyl,hyt,hyd,hr',hres⟩
  refine zaM (by simp) (zaM (by simp [za7]) ?_)
  by_cases hlt:j<l.length
  ·refine zdx (t:=true) (by simp [za7,hyl,hlt]) (fun _=> ?_) (by simp)
   obtain⟨b,r2,hb,hr2,hrr⟩:=zqJ hlt hr'
   have hzj:zs[j]?=some l[j]:=by
    have:=congrArg (fun L=>L[0]?) hyd
    simpa [hlt]using this
   have hyj:(zs.map av)[j]?=some (av l[j]):=by simp [hzj]
   have hKlt:K.length<zs.length:=by omega
   have hwj:IntKind.i64.wrap ((j:Int)+1)=j+1:=zaI (by omega) (by omega)
   have hwK:IntKind.i64.wrap ((K.length:Int)+1)=K.length+1:=zaI (by omega) (by omega)
   refine zzt (K:=fun us=> ∃(K' zs':List α),us= [.int .i64 K'.length, .sl (zs'.map av)]∧K'.length<j+1∧zs'.length=l.length∧zs'.take K'.length=K'∧zs'.drop (j+1)=l.drop (j+1)∧l.take k0++r0=K'++r2) ?_ ?_
   ·rintro us ⟨K',zs',rfl,a1,a2,a3,a4,a5⟩
    refine zaM (by simp [za7]) (zkS ⟨m-1,by omega,j+1,K',zs',r2,by omega, ?_,a1,a2,a3,a4,hr2,a5⟩)
    simp [za7,hwj]
   ·intro J hJ
    refine zaM (fun _=>⟨.i64,j,zs.length,by simp,by omega,by simp,by omega, ?_⟩) (zwG (hck _ _ _ _ j (zs.map av) _ hyj) (zoY (r:= .bool b) (fun _=>⟨g9,caps,by simp, ?_,by simp⟩) ?_))
    ·simp [AV.nth,hzj,(hs l[j]).1]
    ·have e1:=hX (.sl (l.map av)) (.fn g9 caps) (.int .i64 k0) (.int .i64 K.length) j (zs.map av) l[j] [] hyj
     rw [List.append_nil]at e1
     show Rts Tryz.prog sgs (1000000+g9) ([X.den [.sl (l.map av), .fn g9 caps, .int .i64 k0, .int .i64 K.length, .int .i64 j, .sl (zs.map av)]]++caps) (.bool b)
     rw [e1]
     exact hf _ _ hb
    ·refine zaM (by simp) ?_
     have e2:=hX (.sl (l.map av)) (.fn g9 caps) (.int .i64 k0) (.int .i64 K.length) j (zs.map av) l[j] [.bool b] hyj
     cases b with
     |true=>
      refine zdx (t:=false) (by simp) (by simp) fun _=>zkS (hJ _ ⟨K,zs,by simp,by omega,hyl,hyt, ?_,by rw [hres,hrr];simp⟩)
      have:=congrArg (List.drop 1) hyd
      simpa [List.drop_drop]using this
     |false=>
      refine zdx (t:=true) (by simp) (fun _=> ?_) (by simp)
      obtain⟨zk,hzk⟩: ∃zk,zs[K.length]?=some zk:=⟨zs[K.length],by simp [hKlt]⟩
      have e3:(E.idx (.var 5) (.var 3)).den ([AV.sl (l.map av), .fn g9 caps, .int .i64 k0, .int .i64 K.length, .int .i64 j, .sl (zs.map av)]++ [.bool false])=av zk:=by
       simp [AV.nth,hzk]
      refine zaM (fun _=>⟨.i64,K.length,zs.length,by simp,by omega,by simp,by omega, ?_⟩) (zaM (fun _=>hflat _ _ _ e2) (zaM (fun _=>hflat _ _ zk ?_) (zaM (by simp [za7]) (zkS (hJ _ ⟨K++ [l[j]],zs.set K.length l[j], ?_,by simp;omega,by simpa using hyl, ?_, ?_,by rw [hres,hrr];simp⟩)))))
      ·simp [AV.nth,hzk,(hs zk).1]
      ·exact(congrArg (fun y=>AV.fld y 0 cn g) e3).trans (hfld zk)
      ·have e4:(E.set (.var 5) (.var 3) (.put (.idx (.var 5) (.var 3)) 0 X g)).den ([AV.sl (l.map av), .fn g9 caps, .int .i64 k0, .int .i64 K.length, .int .i64 j, .sl (zs.map av)]++ [.bool false])= .sl ((zs.set K.length l[j]).map av):=by
        show AV.cy _ _ (AV.db ((E.idx (.var 5) (.var 3)).den _) 0 (X.den _) g)=_
        rw [e3,e2,hput]
        simp [AV.cy,List.map_set]
       show EL.den _ (.cons (.bin .add (.var 3) (.int .i64 1)) (.cons (.set (.var 5) (.var 3) (.put (.idx (.var 5) (.var 3)) 0 X g)) .nil))=_
       simp only [EL.den]
       have e5:(E.bin .add (.var 3) (.int .i64 1)).den ([AV.sl (l.map av), .fn g9 caps, .int .i64 k0, .int .i64 K.length, .int .i64 j, .sl (zs.map av)]++ [.bool false])= .int .i64 ((K++ [l[j]]).length:Int):=by
        simp [za7,hwK]
       congr 1
       congr 1
      ·rw [yqla,yqls,List.take_add_one,List.take_set_of_le (Nat.le_refl _),hyt]
       simp [hKlt]
      ·rw [List.drop_set_of_lt (by omega)]
       have:=congrArg (List.drop 1) hyd
       simpa [List.drop_drop]using this
  ·have hje:j=l.length:=by omega
   subst hje
   refine zdx (t:=false) (by simp [za7,hyl]) (by simp) fun _=>zrC ?_
   have hr0:r'= []:=by
    rw [List.drop_eq_nil_of_le (Nat.le_refl _)]at hr'
    exact(by simpa [zjt]using hr'.symm)
   subst hr0
   rw [hres,List.append_nil]
   have hwn:IntKind.i64.wrap ((zs.length:Int)-K.length)=zs.length-K.length:=zaI (by omega) (by omega)
   have d3:(E.var 3).den ([AV.sl (l.map av),AV.fn g9 caps]++ [AV.int .i64 (k0:Int)]++ [AV.int .i64 (K.length:Int),AV.sl (zs.map av)])= .int .i64 K.length:=by simp
   have d4:(E.var 4).den ([AV.sl (l.map av),AV.fn g9 caps]++ [AV.int .i64 (k0:Int)]++ [AV.int .i64 (K.length:Int),AV.sl (zs.map av)])= .sl (zs.map av):=by simp
   have dm:(E.bin .sub (.len (.var 4)) (.var 3)).den ([AV.sl (l.map av),AV.fn g9 caps]++ [AV.int .i64 (k0:Int)]++ [AV.int .i64 (K.length:Int),AV.sl (zs.map av)])= .int .i64 ((zs.length:Int)-K.length):=by simp [za7,hwn]
   have hwin:Cn.den ([AV.sl (l.map av),AV.fn g9 caps]++ [AV.int .i64 (k0:Int)]++ [AV.int .i64 (K.length:Int),AV.sl (zs.map av)]) (.win (.var 4) (.var 3) (.len (.var 4))):=⟨.i64,K.length, .i64,zs.length,zs.length,d3,by simp,by rw [d4];simp,by omega,by omega,by omega⟩
   have dapp:(E.app (.win (.var 4) (.int .i64 (0)) (.var 3)) (.rep (.bin .sub (.len (.var 4)) (.var 3)) z)).den ([AV.sl (l.map av),AV.fn g9 caps]++ [AV.int .i64 (k0:Int)]++ [AV.int .i64 (K.length:Int),AV.sl (zs.map av)])= .sl ((zs.map av).take K.length++List.replicate (zs.length-K.length) (z.den ([AV.sl (l.map av),AV.fn g9 caps]++ [AV.int .i64 (k0:Int)]++ [AV.int .i64 (K.length:Int),AV.sl (zs.map av)]))):=by
    show AV.app (AV.win ((E.var 4).den _) (.int .i64 0) ((E.var 3).den _)) (AV.rep ((E.bin .sub (.len (.var 4)) (.var 3)).den _) _)=_
    rw [d3,d4,dm]
    simp only [AV.win,AV.rep,AV.app,Int.toNat_natCast,Int.toNat_zero,List.drop_zero]
    congr 3;omega
   refine zaM (fun _=>hwin) (zaM (fun _=>hwin) (zaM (fun _=>fun hu=>by have:=dm.symm.trans hu;simp at this) (zaM (fun _=>⟨.i64,0, .i64,K.length,zs.length,rfl,d3, ?_,by omega,by omega,by omega⟩) (zie ?_))))
   ·refine(congrArg AV.len dapp).trans ?_
    simp only [AV.len,yqla,List.length_take,List.length_map,List.length_replicate]
    congr 1;omega
   ·refine(congrArg (fun y=>AV.win y (.int .i64 0) (.int .i64 K.length)) dapp).trans ?_
    simp only [AV.win,Int.toNat_natCast,Int.toNat_zero,List.drop_zero]
    rw [List.take_append_of_le_length (by simp;omega),List.take_take,Nat.min_self,←List.map_take,hyt]
def zCD (fi cn:Nat) (X:E) (ck:List Cn) (z:E):Tr:=
 .call [] (.inl fi) (.cons (.var 0) (.cons (.var 1) .nil))<|
 .bu [] (.dfd (.bin .eql (.var 2) (.int .i64 (-1))))<|
 .ite (.bin .eql (.var 2) (.int .i64 (-1))) (
  .ret (.var 0)) (
  .bu [] (.dfd (.bin .add (.var 2) (.int .i64 (1))))<|
  .loop (.cons (.var 2) (.cons (.bin .add (.var 2) (.int .i64 (1))) (.cons (.var 0) .nil))) (
  .bu [] (.dfd (.len (.var 5)))<|
  .bu [] (.dfd (.bin .lss (.var 4) (.len (.var 5))))<|
  .ite (.bin .lss (.var 4) (.len (.var 5))) (
   .join (
   .bu [] (.inb (.var 4) (.var 5) cn)<|
   zGA ck<|
   .call [] (.inr (.var 1)) (.cons X .nil)<|
   .bu [] (.dfd (.not (.var 6)))<|
   .ite (.not (.var 6)) (
    .bu [] (.inb (.var 3) (.var 5) cn)<|
    .bu [] (.agg X cn)<|
    .bu [] (.dfd (.bin .add (.var 3) (.int .i64 (1))))<|
    .jmp 0 (.cons (.bin .add (.var 3) (.int .i64 (1))) (.cons (.set (.var 5) (.var 3) (.put (.idx (.var 5) (.var 3)) 0 X true)) .nil))) (
    .jmp 0 (.cons (.var 3) (.cons (.var 5) .nil)))) (
   .bu [] (.dfd (.bin .add (.var 4) (.int .i64 (1))))<|
   .jmp 0 (.cons (.var 6) (.cons (.bin .add (.var 4) (.int .i64 (1))) (.cons (.var 7) .nil))))) (
   .jmp 1 (.cons (.var 3) (.cons (.var 5) .nil)))) (
  .bu [] (.win (.var 4) (.var 3) (.len (.var 4)))<|
  .bu [] (.win (.var 4) (.var 3) (.len (.var 4)))<|
  .bu [] (.dfd (.bin .sub (.len (.var 4)) (.var 3)))<|
  .bu [] (.win (.app (.win (.var 4) (.int .i64 (0)) (.var 3)) (.rep (.bin .sub (.len (.var 4)) (.var 3)) z)) (.int .i64 (0)) (.var 3))<|
  .ret (.win (.app (.win (.var 4) (.int .i64 (0)) (.var 3)) (.rep (.bin .sub (.len (.var 4)) (.var 3)) z)) (.int .i64 (0)) (.var 3))))
theorem zEh {α:Type} {av:α→AV} {l r:List α} {p:α→Option Bool} {fi cn g9:Nat} {X z:E} {ck:List Cn} {caps:List AV}
  (hs: ∀x,(av x).cells.length=cn∧ ∃cs,av x= .agg cs) (hcn:0<cn)
  (hX: ∀(a b c d:AV) (j:Nat) (ys:List AV) (x:α) (tl:List AV),ys[j]?=some (av x)→X.den ([a,b,c,d, .int .i64 j, .sl ys]++tl)=av x)
  (hck: ∀(a b c d:AV) (j:Nat) (ys:List AV) (x:α),ys[j]?=some (av x)→ ∀q∈ck,q.den [a,b,c,d, .int .i64 j, .sl ys])
  (h:zcu l p=some r) (hi: ∀i,za4 l p=some i→Rts Tryz.prog sgs fi [.sl (l.map av), .fn g9 caps] (.int .i64 i))
  (hf: ∀x b,p x=some b→Rts Tryz.prog sgs (1000000+g9) (av x::caps) (.bool b)):Den (zCD fi cn X ck z) (.sl (r.map av)) [.sl (l.map av), .fn g9 caps]:=by
 obtain⟨hn,h⟩:=zxK h
 unfold Den zCD
 have hput: ∀x y:α,(av y).db 0 (av x) true=av x:=by
  intro x y
  obtain⟨cs,hcs⟩:=(hs x).2
  have e1:=(hs x).1
  have e2:=(hs y).1
  have e3:(av x).cells=cs:=by rw [hcs];rfl
  have e4:(av y).cells.drop (0+cs.length)= []:=List.drop_eq_nil_of_le (by rw [e2,←e1,e3];omega)
  show AV.agg ((av y).cells.take 0++(av x).cells++(av y).cells.drop (0+(av x).cells.length))=av x
  rw [e3,e4,List.append_nil,List.take_zero,List.nil_append,hcs]
 have hflat: ∀(e:E) (ρ:List AV) (x:α),e.den ρ=av x→Cn.den ρ (.agg e cn):=fun e ρ x he=>by
  show∃cs,e.den ρ= .agg cs∧cs.length=cn
  rw [he]
  obtain⟨cs,hcs⟩:=(hs x).2
  have e1:=(hs x).1
  rw [hcs]at e1
  exact⟨cs,hcs,e1⟩
 rcases zn9 0 h with⟨h1,rfl⟩|⟨k0,r0,hk0,h1,h2,rfl⟩
 ·refine zpc (r:= .int .i64 (-1)) (fun _=>hi _ (by unfold za4;rw [show req (r.length≤9223372036854775806) (zqH p r 0)=zqH p r 0 from if_pos hn];exact h1)) ?_
  exact zaM (by simp [za7]) (zdx (t:=true) (by simp [za7]) (fun _=>zie (by simp)) (by simp))
 ·refine zpc (r:= .int .i64 k0) (fun _=>hi _ (by unfold za4;rw [show req (l.length≤9223372036854775806) (zqH p l 0)=zqH p l 0 from if_pos hn,h1];simp)) ?_
  have hw:IntKind.i64.wrap ((k0:Int)+1)=k0+1:=zaI (by omega) (by omega)
  refine zaM (by simp [za7]) (zdx (t:=false) (by simp [za7];try omega) (by simp) fun _=>zaM (by simp [za7]) ?_)
  refine zvn zmc (fun m vs=> ∃(j:Nat) (K zs r':List α),j+m=l.length∧vs= [.int .i64 K.length, .int .i64 j, .sl (zs.map av)]∧K.length<j∧zs.length=l.length∧zs.take K.length=K∧zs.drop j=l.drop j∧zjt p (l.drop j)=some r'∧l.take k0++r0=K++r') (m:=l.length-(k0+1))
   ⟨k0+1,l.take k0,l,r0,by omega, ?_,by simp;omega,rfl,by simp [Nat.min_eq_left (Nat.le_of_lt hk0)],rfl,h2,rfl⟩ ?_
  ·simp [za7,hw,Nat.min_eq_left (Nat.le_of_lt hk0)]
  rintro m vs ⟨j,K,zs,r',hj,rfl,hKj,hyl,hyt,hyd,hr',hres⟩
  refine zaM (by simp) (zaM (by simp [za7]) ?_)
  by_cases hlt:j<l.length
  ·refine zdx (t:=true) (by simp [za7,hyl,hlt]) (fun _=> ?_) (by simp)
   obtain⟨b,r2,hb,hr2,hrr⟩:=zqJ hlt hr'
   have hzj:zs[j]?=some l[j]:=by
    have:=congrArg (fun L=>L[0]?) hyd
    simpa [hlt]using this
   have hyj:(zs.map av)[j]?=some (av l[j]):=by simp [hzj]
   have hKlt:K.length<zs.length:=by omega
   have hwj:IntKind.i64.wrap ((j:Int)+1)=j+1:=zaI (by omega) (by omega)
   have hwK:IntKind.i64.wrap ((K.length:Int)+1)=K.length+1:=zaI (by omega) (by omega)
   refine zzt (K:=fun us=> ∃(K' zs':List α),us= [.int .i64 K'.length, .sl (zs'.map av)]∧K'.length<j+1∧zs'.length=l.length∧zs'.take K'.length=K'∧zs'.drop (j+1)=l.drop (j+1)∧l.take k0++r0=K'++r2) ?_ ?_
   ·rintro us ⟨K',zs',rfl,a1,a2,a3,a4,a5⟩
    refine zaM (by simp [za7]) (zkS ⟨m-1,by omega,j+1,K',zs',r2,by omega, ?_,a1,a2,a3,a4,hr2,a5⟩)
    simp [za7,hwj]
   ·intro J hJ
    refine zaM (fun _=>⟨.i64,j,zs.length,by simp,by omega,by simp,by omega, ?_⟩) (zwG (hck _ _ _ _ j (zs.map av) _ hyj) (zoY (r:= .bool b) (fun _=>⟨g9,caps,by simp, ?_,by simp⟩) ?_))
    ·simp [AV.nth,hzj,(hs l[j]).1]
    ·have e1:=hX (.sl (l.map av)) (.fn g9 caps) (.int .i64 k0) (.int .i64 K.length) j (zs.map av) l[j] [] hyj
     rw [List.append_nil]at e1
     show Rts Tryz.prog sgs (1000000+g9) ([X.den [.sl (l.map av), .fn g9 caps, .int .i64 k0, .int .i64 K.length, .int .i64 j, .sl (zs.map av)]]++caps) (.bool b)
     rw [e1]
     exact hf _ _ hb
    ·refine zaM (by simp) ?_
     have e2:=hX (.sl (l.map av)) (.fn g9 caps) (.int .i64 k0) (.int .i64 K.length) j (zs.map av) l[j] [.bool b] hyj
     cases b with
     |true=>
      refine zdx (t:=false) (by simp) (by simp) fun _=>zkS (hJ _ ⟨K,zs,by simp,by omega,hyl,hyt, ?_,by rw [hres,hrr];simp⟩)
      have:=congrArg (List.drop 1) hyd
      simpa [List.drop_drop]using this
     |false=>
      refine zdx (t:=true) (by simp) (fun _=> ?_) (by simp)
      obtain⟨zk,hzk⟩: ∃zk,zs[K.length]?=some zk:=⟨zs[K.length],by simp [hKlt]⟩
      have e3:(E.idx (.var 5) (.var 3)).den ([AV.sl (l.map av), .fn g9 caps, .int .i64 k0, .int .i64 K.length, .int .i64 j, .sl (zs.map av)]++ [.bool false])=av zk:=by
       simp [AV.nth,hzk]
      refine zaM (fun _=>⟨.i64,K.length,zs.length,by simp,by omega,by simp,by omega, ?_⟩) (zaM (fun _=>hflat _ _ _ e2) (zaM (by simp [za7]) (zkS (hJ _ ⟨K++ [l[j]],zs.set K.length l[j], ?_,by simp;omega,by simpa using hyl, ?_, ?_,by rw [hres,hrr];simp⟩))))
      ·simp [AV.nth,hzk,(hs zk).1]
      ·have e4:(E.set (.var 5) (.var 3) (.put (.idx (.var 5) (.var 3)) 0 X true)).den ([AV.sl (l.map av), .fn g9 caps, .int .i64 k0, .int .i64 K.length, .int .i64 j, .sl (zs.map av)]++ [.bool false])= .sl ((zs.set K.length l[j]).map av):=by
        show AV.cy _ _ (AV.db ((E.idx (.var 5) (.var 3)).den _) 0 (X.den _) true)=_
        rw [e3,e2,hput]
        simp [AV.cy,List.map_set]
       show EL.den _ (.cons (.bin .add (.var 3) (.int .i64 1)) (.cons (.set (.var 5) (.var 3) (.put (.idx (.var 5) (.var 3)) 0 X true)) .nil))=_
       simp only [EL.den]
       have e5:(E.bin .add (.var 3) (.int .i64 1)).den ([AV.sl (l.map av), .fn g9 caps, .int .i64 k0, .int .i64 K.length, .int .i64 j, .sl (zs.map av)]++ [.bool false])= .int .i64 ((K++ [l[j]]).length:Int):=by
        simp [za7,hwK]
       congr 1
       congr 1
      ·rw [yqla,yqls,List.take_add_one,List.take_set_of_le (Nat.le_refl _),hyt]
       simp [hKlt]
      ·rw [List.drop_set_of_lt (by omega)]
       have:=congrArg (List.drop 1) hyd
       simpa [List.drop_drop]using this
  ·have hje:j=l.length:=by omega
   subst hje
   refine zdx (t:=false) (by simp [za7,hyl]) (by simp) fun _=>zrC ?_
   have hr0:r'= []:=by
    rw [List.drop_eq_nil_of_le (Nat.le_refl _)]at hr'
    exact(by simpa [zjt]using hr'.symm)
   subst hr0
   rw [hres,List.append_nil]
   have hwn:IntKind.i64.wrap ((zs.length:Int)-K.length)=zs.length-K.length:=zaI (by omega) (by omega)
   have d3:(E.var 3).den ([AV.sl (l.map av),AV.fn g9 caps]++ [AV.int .i64 (k0:Int)]++ [AV.int .i64 (K.length:Int),AV.sl (zs.map av)])= .int .i64 K.length:=by simp
   have d4:(E.var 4).den ([AV.sl (l.map av),AV.fn g9 caps]++ [AV.int .i64 (k0:Int)]++ [AV.int .i64 (K.length:Int),AV.sl (zs.map av)])= .sl (zs.map av):=by simp
   have dm:(E.bin .sub (.len (.var 4)) (.var 3)).den ([AV.sl (l.map av),AV.fn g9 caps]++ [AV.int .i64 (k0:Int)]++ [AV.int .i64 (K.length:Int),AV.sl (zs.map av)])= .int .i64 ((zs.length:Int)-K.length):=by simp [za7,hwn]
   have hwin:Cn.den ([AV.sl (l.map av),AV.fn g9 caps]++ [AV.int .i64 (k0:Int)]++ [AV.int .i64 (K.length:Int),AV.sl (zs.map av)]) (.win (.var 4) (.var 3) (.len (.var 4))):=⟨.i64,K.length, .i64,zs.length,zs.length,d3,by simp,by rw [d4];simp,by omega,by omega,by omega⟩
   have dapp:(E.app (.win (.var 4) (.int .i64 (0)) (.var 3)) (.rep (.bin .sub (.len (.var 4)) (.var 3)) z)).den ([AV.sl (l.map av),AV.fn g9 caps]++ [AV.int .i64 (k0:Int)]++ [AV.int .i64 (K.length:Int),AV.sl (zs.map av)])= .sl ((zs.map av).take K.length++List.replicate (zs.length-K.length) (z.den ([AV.sl (l.map av),AV.fn g9 caps]++ [AV.int .i64 (k0:Int)]++ [AV.int .i64 (K.length:Int),AV.sl (zs.map av)]))):=by
    show AV.app (AV.win ((E.var 4).den _) (.int .i64 0) ((E.var 3).den _)) (AV.rep ((E.bin .sub (.len (.var 4)) (.var 3)).den _) _)=_
    rw [d3,d4,dm]
    simp only [AV.win,AV.rep,AV.app,Int.toNat_natCast,Int.toNat_zero,List.drop_zero]
    congr 3;omega
   refine zaM (fun _=>hwin) (zaM (fun _=>hwin) (zaM (fun _=>fun hu=>by have:=dm.symm.trans hu;simp at this) (zaM (fun _=>⟨.i64,0, .i64,K.length,zs.length,rfl,d3, ?_,by omega,by omega,by omega⟩) (zie ?_))))
   ·refine(congrArg AV.len dapp).trans ?_
    simp only [AV.len,yqla,List.length_take,List.length_map,List.length_replicate]
    congr 1;omega
   ·refine(congrArg (fun y=>AV.win y (.int .i64 0) (.int .i64 K.length)) dapp).trans ?_
    simp only [AV.win,Int.toNat_natCast,Int.toNat_zero,List.drop_zero]
    rw [List.take_append_of_le_length (by simp;omega),List.take_take,Nat.min_self,←List.map_take,hyt]
abbrev RtS:Nat→List AV→AV→Prop:=Rts Tryz.prog sgs
@[reducible] def zHo:Nat→Type
 |0=>zaa
 |1=>zbh
 |2=>zab
 |3=>zai
 |4=>zaK
 |5=>zaJ
 |6=>zch
 |7=>zao
 |8=>zax
 |9=>zaw
 |10=>DOp
 |11=>zh6
 |12=>zdk
 |_+13=>Unit
@[reducible] def zIF:Nat→List Ty
 |0=> [.s, .s, .b]
 |1=> [.s, .i .i64, .i .i64]
 |2=> [.s, .l .s, .l (.st 1)]
 |3=> [.s, .l (.st 2), .l (.i .i64), .l (.st 0)]
 |4=> [.s, .b]
 |5=> [.s, .l (.st 2), .l (.i .i64), .l (.st 0), .s, .b, .s, .b]
 |6=> [.l .s]
 |7=> [.i .i64, .l .s, .l .s]
 |8=> [.i .i64, .i .i64, .i .i64, .l .s, .l .s]
 |9=> [.i .i64, .i .i64, .i .i64, .i .i64, .i .i64, .l .s, .l .s]
 |10=> [.i .i64, .s, .s, .i .i64]
 |11=> [.s, .s, .b]
 |12=> [.s, .l (.st 10)]
 |_+13=> []
def tAv: ∀n,zHo n→AV
 |0,x=>zsl x
 |1,x=>zFl x
 |2,x=>ztc x
 |3,x=>zCx x
 |4,x=>zF4 x
 |5,x=>zBR x
 |6,x=>zIx x
 |7,x=>zAc x
 |8,x=>zuH x
 |9,x=>zrV x
 |10,x=>zJt x
 |11,x=>zIP x
 |12,x=>zIl x
 |_+13,_=> .agg []
def zJa: ∀n,zHo n→HL zHo (zIF n)
 |0,x=>(x.ae,x.az,x.bd,())
 |1,x=>(x.ab,x.bj,x.al,())
 |2,x=>(x.ab,x.ao,x.af,())
 |3,x=>(x.ab,x.ak,x.bm,x.ay,())
 |4,x=>(x.aq,x.br,())
 |5,x=>(x.ah.ab,x.ah.ak,x.ah.bm,x.ah.ay,x.c8.aq,x.c8.br,x.bf.aq,x.bf.br,())
 |6,x=>(x.au,())
 |7,x=>(x.aj,x.bg.au,x.bh.au,())
 |8,x=>(x.ax,x.bb,x.aw.aj,x.aw.bg.au,x.aw.bh.au,())
 |9,x=>(x.aj,x.bt,x.aw.ax,x.aw.bb,x.aw.aw.aj,x.aw.aw.bg.au,x.aw.aw.bh.au,())
 |10,x=>(x.aj,x.ae,x.az,x.jm,())
 |11,x=>(x.ae,x.az,x.fc,())
 |12,x=>(x.a8,x.cg,())
 |_+13,_=>()
def tMk: ∀n,HL zHo (zIF n)→zHo n
 |0,x=>⟨x.1,x.2.1,x.2.2.1⟩
 |1,x=>⟨x.1,x.2.1,x.2.2.1⟩
 |2,x=>⟨x.1,x.2.1,x.2.2.1⟩
 |3,x=>⟨x.1,x.2.1,x.2.2.1,x.2.2.2.1⟩
 |4,x=>⟨x.1,x.2.1⟩
 |5,x=>⟨⟨x.1,x.2.1,x.2.2.1,x.2.2.2.1⟩,⟨x.2.2.2.2.1,x.2.2.2.2.2.1⟩,⟨x.2.2.2.2.2.2.1,x.2.2.2.2.2.2.2.1⟩⟩
 |6,x=>⟨x.1⟩
 |7,x=>⟨x.1,⟨x.2.1⟩,⟨x.2.2.1⟩⟩
 |8,x=>⟨x.1,x.2.1,⟨x.2.2.1,⟨x.2.2.2.1⟩,⟨x.2.2.2.2.1⟩⟩⟩
 |9,x=>⟨x.1,x.2.1,⟨x.2.2.1,x.2.2.2.1,⟨x.2.2.2.2.1,⟨x.2.2.2.2.2.1⟩,⟨x.2.2.2.2.2.2.1⟩⟩⟩⟩
 |10,x=>⟨x.1,x.2.1,x.2.2.1,x.2.2.2.1⟩
 |11,x=>⟨x.1,x.2.1,x.2.2.1⟩
 |12,x=>⟨x.1,x.2.1⟩
 |_+13,_=>()
theorem zHL: ∀n x,tAv n x= .agg (zzI tAv (zIF n) (zJa n x))
 |0,_=>rfl
 |1,_=>rfl
 |2,_=>rfl
 |3,_=>rfl
 |4,_=>rfl
 |5,_=>rfl
 |6,_=>rfl
 |7,_=>rfl
 |8,_=>rfl
 |9,_=>rfl
 |10,_=>rfl
 |11,_=>rfl
 |12,_=>rfl
 |_+13,_=>rfl
theorem zGo: ∀n h,zJa n (tMk n h)=h
 |0,_=>rfl
 |1,_=>rfl
 |2,_=>rfl
 |3,_=>rfl
 |4,_=>rfl
 |5,_=>rfl
 |6,_=>rfl
 |7,_=>rfl
 |8,_=>rfl
 |9,_=>rfl
 |10,_=>rfl
 |11,_=>rfl
 |12,_=>rfl
 |_+13,_=>rfl
@[reducible] def tab:Tab:=⟨RtS,zHo,tAv,zIF,zJa,tMk,zHL,zGo⟩
abbrev FS:=FN tab
noncomputable def tev (tb:List FS) (hs:List JM) (o:Option Tr) (ps:List PT) (r:RT) (xs:HP tab.car ps) (hp:zAa tab ps xs):Option (RTI tab.car r):=match o with
 |some t=>zey tb 100000 (toR r) t hs (vPs ps xs hp) [] []
 |none=>none
theorem zHF {f:Nat} {ps:List PT} {r:RT} {φ:HP tab.car ps→Option (RTI tab.car r)} (tb:List FS) (hs:List JM) (h: ∀xs hp,tev tb hs (zH1 Tryz.prog sgs f) ps r xs hp=φ xs) (hk: ∀xs y,zII Tryz.prog sgs f (zlX tab ps xs) (zwL tab r y)=true) (xs:HP tab.car ps) (y:RTI tab.car r) (hp:zAa tab ps xs) (e:φ xs=some y):tab.Rt f (zlX tab ps xs) (zwL tab r y):=by
 rw [←h xs hp]at e
 unfold tev at e
 split at e
 ·rename_i t ht
  refine zho ht (hk xs y) ?_
  unfold Den
  rw [←zCK ps xs hp]
  exact zbx tb 100000 (fa:= []) (fun _ h=>nomatch h) (fun _ h=>nomatch h) (fun v hv=>zy9 r hv) .nil e
 ·cases e
noncomputable def mkF (f:Nat) (ps:List PT) (r:RT) (φ:HP tab.car ps→Option (RTI tab.car r)) (tb:List FS) (hs:List JM) (h: ∀xs hp,tev tb hs (zH1 Tryz.prog sgs f) ps r xs hp=φ xs:=by intro _ _;kernel_rfl) (hk: ∀xs y,zII Tryz.prog sgs f (zlX tab ps xs) (zwL tab r y)=true:=by intro _ _;kernel_rfl):FS:=
 ⟨f,ps,r,φ,fun xs y hp e=>zHF tb hs h hk xs y hp e,false,fun h=>by cases h⟩
noncomputable def mkP (d:FS) (h: ∀y,zBq d.f (zwL tab d.r y)=true):FS:=
 ⟨d.f,d.ps,d.r,d.φ,d.ok,true,fun _ xs y hx e=>zBP (d.ok xs y hx e) (h y)⟩
noncomputable def mkH (f:Nat) (ps:List PT) (r:RT) (φ:HP tab.car ps→Option (RTI tab.car r)) (ok: ∀xs y,zAa tab ps xs→φ xs=some y→tab.Rt f (zlX tab ps xs) (zwL tab r y)):FS:=⟨f,ps,r,φ,ok,false,fun h=>by cases h⟩
end Go.Proofs.YtgobcjbjogkpjaaGreatDoor
end
section
namespace Go.Proofs.YtgobcjbjogkpjaaGreatDoor
open Go.RowKit
theorem zhy.rd {P:Program} {w:World} {ts:List TypeId} {ms:List PM} {lo:List Bool} {vs:List Value} {xs:List AV} {rf lf hs:List Nat} (h:zhy P w ts ms lo vs xs rf lf hs):lo= []→(∀m∈ms,m= .ro)→Rd w vs xs rf∧hs= []:=by
 induction h with
 |nil=>intro _ _;exact⟨.nil,rfl⟩
 |lent h1 _ _ _ _=>intro hlo;subst hlo;cases h1
 | @cons t ts ms lo v vs x xs f h rf lf hs harg _ ih=>
  intro hlo hms
  subst hlo
  obtain⟨h1,rfl⟩:=ih rfl fun m hm=>hms m (List.mem_of_mem_tail hm)
  have hro:ms.headD .ro= .ro:=by
   cases ms with
   |nil=>rfl
   |cons m ms=>exact hms m (by simp)
  rw [hro]at harg
  obtain⟨h2,h3⟩:Rd w [v] [x] f∧h= []:=harg
  subst h3
  exact⟨by simpa using h2.app h1,rfl⟩
 |free h1 _ ih=>
  intro hlo hms
  subst hlo
  obtain⟨h2,rfl⟩:=ih rfl fun m hm=>hms m (List.mem_of_mem_tail hm)
  exact⟨by simpa using h1.app h2,rfl⟩
theorem zeU.jz {P:Program} {w:World}: ∀{ts:List TypeId} {ms:List PM} {vs:List Value},vs.length=ts.length→(∀m∈ms,m= .ro)→zeU P w ts ms vs [] [] []
 | [],_,vs,_,_=> .nil
 |t::ts,ms, [],h,_=>by simp at h
 |t::ts,ms,v::vs,h,hms=>by
  refine .ro ?_ (zeU.jz (by simpa using h) fun m hm=>hms m (List.mem_of_mem_tail hm))
  cases ms with
  |nil=>rfl
  |cons m ms=>exact hms m (by simp)
def zIT (P:Program) (sg:SgT) (f np:Nat) (r:AV):Bool:=
 match P.funcs[f]?,sg f with
 |some fn,some s=>fn.body.isSome&& !(fn.name== "runtime.NumGoroutine")&&zmF P fn s r&&s.cq.all (fun m=>match m with| .ro=>true|_=>false)&&fn.params.size==np&&fn.nfree==0&&(s.ft.isEmpty&&s.lo.isEmpty)&&(match fn.resultTypes.toList with| [t]=> !znI P t s.res|_=>false)
 |_,_=>false
theorem zzu {f:Nat} {xs:List AV} {r:AV} (hk:zIT Tryz.prog sgs f xs.length r=true) (hc: ∀(w:World) (vs:List Value) (rf:List Nat),pkW.K w→Rd w vs xs rf→Calls Tryz.prog f vs.toArray w fun e w'=>Mod [] w w'∧ ∃v f1,e= .returned v∧Rd w' [v] [r] f1∧ ∀b∈f1,b∈rf∨w.heap.size≤b):Rts Tryz.prog sgs f xs r:=by
 unfold zIT at hk
 split at hk
 ·rename_i fn s hf hs
  simp only [yqba,Bool.not_eq_true',beq_iff_eq,yqal]at hk
  obtain⟨⟨⟨⟨⟨⟨⟨h1,h2⟩,h3⟩,h4⟩,h5⟩,h6⟩,hft⟩,h7⟩:=hk
  obtain⟨hft,hlo⟩:s.ft= []∧s.lo= []:=by simpa using hft
  have hro: ∀m∈s.cq,m= .ro:=fun m hm=>by
   have:=h4 m hm
   split at this
   ·rfl
   ·cases this
  unfold Rts
  rw [if_pos (zuV f s hs)]
  refine⟨s,hs,fn,hf,h1,h2,h3,by omega,by simp [hft],fun w vs rf lf hs' hargs hd _ hnd hpk=> ?_⟩
  obtain⟨hr,rfl⟩:=hargs.rd hlo hro
  refine(hc w vs rf hpk.2.1 hr).mono ?_
  rintro e w' ⟨hm,v,f1,rfl,hv,hb⟩
  refine⟨v,rfl,⟨⟨r, [],f1, [], [], [],rfl, ?_,zeU.jz ?_ hro,by simp,by simp,fun b hb'=>⟨by simp, ?_⟩⟩,hm⟩⟩
  ·unfold zDW
   split at h7
   ·rename_i t ht
    rw [ht]
    show ztn Tryz.prog w' t s.res v r f1 []
    unfold ztn
    rw [if_neg (by rw [Bool.not_eq_true];simpa using h7)]
    exact⟨hv,rfl⟩
   ·cases h7
  ·rw [hr.len];simp [hft];omega
  ·rcases hb b (by simpa using hb')with h|h
   ·exact .inl h
   ·exact .inr (.inr h)
 ·cases hk
theorem zvd {f:Nat} {xs:List AV} {r:AV} (hk:zIT Tryz.prog sgs f xs.length r=true) (hc: ∀(w:World) (vs:List Value) (rf:List Nat),Rd w vs xs rf→Calls Tryz.prog f vs.toArray w fun e w'=>Mod [] w w'∧ ∃v f1,e= .returned v∧Rd w' [v] [r] f1∧ ∀b∈f1,b∈rf∨w.heap.size≤b):Rts Tryz.prog sgs f xs r:=
 zzu hk fun w vs rf _ hr=>hc w vs rf hr
theorem zpw {w:World} {s:List UInt8} {vs:List Value} {xs:List AV} {f:List Nat} (h:Rd w vs (.str s::xs) f): ∃(b:ByteArray) (us:List Value),vs= .string b::us∧b.data.toList=s∧b.size≤9223372036854775807∧Rd w us xs f:=by
 cases h with
 |str a h=>exact⟨_,_,rfl,rfl,a,h⟩
theorem zxb {w:World} {k:IntKind} {n:Int} {vs:List Value} {xs:List AV} {f:List Nat} (h:Rd w vs (.int k n::xs) f): ∃us:List Value,vs= .int k n::us∧InK k n∧Rd w us xs f:=by
 cases h with
 |int a h=>exact⟨_,rfl,a,h⟩
theorem zmf {w:World} {vs:List Value} {f:List Nat} (h:Rd w vs [] f):vs= []∧f= []:=by
 cases h;exact⟨rfl,rfl⟩
end Go.Proofs.YtgobcjbjogkpjaaGreatDoor
end
section
namespace Go.Proofs
open Go.Shelf
def Tryz.fh:Go.Shelf.Ren:=⟨fun|156=>274|165=>330|166=>331|169=>332|240=>358|241=>359|276=>374|277=>375|n=>n,fun|31=>23|9=>9|3=>3|4=>4|0=>0|20=>20|72=>329|76=>333|70=>327|37=>22|75=>332|127=>350|164=>355|5=>5|80=>290|n=>n,fun|n=>n⟩
theorem Tryz.jh:Go.Proofs.Lays.n156 Tryz.prog Tryz.fh:={
 mixed:=by kernel_rfl
 f156:=Tryz.func274.trans (congrArg some (by kernel_rfl))
 f165:=Tryz.func330.trans (congrArg some (by kernel_rfl))
 f166:=Tryz.func331.trans (congrArg some (by kernel_rfl))
 f169:=Tryz.func332.trans (congrArg some (by kernel_rfl))
 f240:=Tryz.func358.trans (congrArg some (by kernel_rfl))
 f241:=Tryz.func359.trans (congrArg some (by kernel_rfl))
 f276:=Tryz.func374.trans (congrArg some (by kernel_rfl))
 f277:=Tryz.func375.trans (congrArg some (by kernel_rfl))
 t0:=Tryz.underlying0
 a0:=Tryz.isAgg0
 z0:=Tryz.sizeOf0
 v0:=Tryz.zeroValue0
 t3:=Tryz.underlying3
 a3:=Tryz.isAgg3
 z3:=Tryz.sizeOf3
 v3:=Tryz.zeroValue3
 t4:=Tryz.underlying4
 a4:=Tryz.isAgg4
 z4:=Tryz.sizeOf4
 v4:=Tryz.zeroValue4
 t9:=Tryz.underlying9
 a9:=Tryz.isAgg9
 z9:=Tryz.sizeOf9
 v9:=Tryz.zeroValue9
 t20:=Tryz.underlying20
 a20:=Tryz.isAgg20
 z20:=Tryz.sizeOf20
 v20:=Tryz.zeroValue20
 t31:=Tryz.underlying23
 a31:=Tryz.isAgg23
 z31:=Tryz.sizeOf23
 v31:=Tryz.zeroValue23
 t37:=Tryz.underlying22
 a37:=Tryz.isAgg22
 z37:=Tryz.sizeOf22
 v37:=Tryz.zeroValue22
 t70:=Tryz.underlying327
 a70:=Tryz.isAgg327
 z70:=Tryz.sizeOf327
 v70:=Tryz.zeroValue327
 t72:=Tryz.underlying329
 a72:=Tryz.isAgg329
 z72:=Tryz.sizeOf329
 v72:=Tryz.zeroValue329
 t75:=Tryz.underlying332
 a75:=Tryz.isAgg332
 z75:=Tryz.sizeOf332
 v75:=Tryz.zeroValue332
 t76:=Tryz.underlying333
 a76:=Tryz.isAgg333
 z76:=Tryz.sizeOf333
 v76:=Tryz.zeroValue333
 t127:=Tryz.underlying350
 a127:=Tryz.isAgg350
 z127:=Tryz.sizeOf350
 v127:=Tryz.zeroValue350
 t164:=Tryz.underlying355
 a164:=Tryz.isAgg355
 z164:=Tryz.sizeOf355
 v164:=Tryz.zeroValue355}
theorem Tryz.dn:Builder.Extra Tryz.prog Tryz.fh:={
 sizeBuilder:=by kernel_rfl
 liesBuilder:=by kernel_rfl
 t5:=Tryz.underlying5
 a5:=Tryz.isAgg5
 z5:=Tryz.sizeOf5
 v5:=Tryz.zeroValue5
 infoByte:=by kernel_rfl
 cellsByte:=by kernel_rfl
 sizeByte:=by kernel_rfl
 neB5:=by decide}
open Go.RowKit in
theorem Tryz.strings_Join_none (a:Option Addr) (c:Nat) (sep:ByteArray) (w:World):
  Calls Tryz.prog 274 #[.slice a 0 c, .string sep] w fun e w'=>e= .returned (.string ⟨#[]⟩)∧w'=w:=Any.strings_Join_none Tryz.jh Tryz.dn a c sep w
open Go.RowKit in
theorem Tryz.strings_Join (bk o c:Nat) (xs:List ByteArray) (sep:ByteArray) (w:World) (hcells: ∀(j:Nat) x,xs[j]?=some x→w.cell? ⟨bk,o+j,none⟩=some (.string x)) (hbk:bk<w.heap.size) (hN:xs.length≤140737488355328) (hcap:xs.length≤c) (hlen:(Lib.join (xs.map (·.data.toList)) sep.data.toList).length≤140737488355328):
  Calls Tryz.prog 274 #[.slice (some ⟨bk,o,none⟩) xs.length c, .string sep] w fun e w'=>e= .returned (.string ⟨(Lib.join (xs.map (·.data.toList)) sep.data.toList).toArray⟩)∧Below w.heap.size w w':=Any.strings_Join Tryz.jh Tryz.dn bk o c xs sep w hcells hbk hN hcap hlen
def Tryz.lr:Go.Shelf.Ren:=⟨fun|137=>321|217=>350|266=>369|n=>n,fun|9=>9|5=>5|3=>3|n=>n,fun|n=>n⟩
def Tryz.lz:Go.Shelf.Ren:=⟨fun|172=>370|244=>382|245=>383|247=>393|279=>394|280=>395|281=>396|282=>397|287=>404|316=>405|171=>327|205=>406|321=>409|322=>410|243=>352|246=>371|283=>384|284=>385|285=>386|286=>387|129=>399|317=>398|318=>400|319=>401|320=>402|337=>407|338=>408|n=>n,fun|9=>9|3=>3|75=>332|76=>333|4=>4|5=>5|167=>367|37=>22|0=>0|85=>368|2=>2|168=>370|53=>128|175=>384|46=>294|210=>387|127=>350|145=>393|143=>391|21=>21|171=>361|173=>364|212=>374|51=>375|20=>20|213=>376|232=>394|233=>395|80=>290|n=>n,fun|15=>4|16=>5|17=>1|18=>6|19=>7|n=>n⟩
def Tryz.kx:Go.Shelf.Ren:=⟨fun|246=>371|283=>384|284=>385|285=>386|286=>387|129=>399|317=>398|318=>400|319=>401|320=>402|337=>407|338=>408|n=>n,fun|2=>2|3=>3|9=>9|4=>4|171=>361|0=>0|53=>128|37=>22|5=>5|173=>364|212=>374|51=>375|20=>20|213=>376|46=>294|232=>394|233=>395|n=>n,fun|17=>1|18=>6|19=>7|n=>n⟩
def Tryz.ll:Go.Shelf.Ren:=⟨fun|243=>352|246=>371|283=>384|284=>385|285=>386|286=>387|129=>399|317=>398|318=>400|319=>401|320=>402|337=>407|338=>408|n=>n,fun|3=>3|9=>9|2=>2|4=>4|171=>361|0=>0|53=>128|37=>22|5=>5|173=>364|212=>374|51=>375|20=>20|213=>376|46=>294|232=>394|233=>395|n=>n,fun|17=>1|18=>6|19=>7|n=>n⟩
def Tryz.gr:Go.Shelf.Ren:=⟨fun|171=>327|243=>352|246=>371|283=>384|284=>385|285=>386|286=>387|129=>399|317=>398|318=>400|319=>401|320=>402|337=>407|338=>408|n=>n,fun|3=>3|9=>9|2=>2|4=>4|171=>361|0=>0|53=>128|37=>22|5=>5|173=>364|212=>374|51=>375|20=>20|213=>376|46=>294|232=>394|233=>395|n=>n,fun|17=>1|18=>6|19=>7|n=>n⟩
theorem Tryz.jv:Go.Proofs.LaysM.n171 Tryz.prog Tryz.gr:={
 mixed:=by kernel_rfl
 f129:=Tryz.func399.trans (congrArg some (by kernel_rfl))
 f171:=Tryz.func327.trans (congrArg some (by kernel_rfl))
 f243:=Tryz.func352.trans (congrArg some (by kernel_rfl))
 f246:=Tryz.func371.trans (congrArg some (by kernel_rfl))
 f283:=Tryz.func384.trans (congrArg some (by kernel_rfl))
 f284:=Tryz.func385.trans (congrArg some (by kernel_rfl))
 f285:=Tryz.func386.trans (congrArg some (by kernel_rfl))
 f286:=Tryz.func387.trans (congrArg some (by kernel_rfl))
 f317:=Tryz.func398.trans (congrArg some (by kernel_rfl))
 f318:=Tryz.func400.trans (congrArg some (by kernel_rfl))
 f319:=Tryz.func401.trans (congrArg some (by kernel_rfl))
 f320:=Tryz.func402.trans (congrArg some (by kernel_rfl))
 f337:=Tryz.func407.trans (congrArg some (by kernel_rfl))
 f338:=Tryz.func408.trans (congrArg some (by kernel_rfl))
 t0:=Tryz.underlying0
 a0:=Tryz.isAgg0
 z0:=Tryz.sizeOf0
 v0:=Tryz.zeroValue0
 t2:=Tryz.underlying2
 a2:=Tryz.isAgg2
 z2:=Tryz.sizeOf2
 v2:=Tryz.zeroValue2
 t3:=Tryz.underlying3
 a3:=Tryz.isAgg3
 z3:=Tryz.sizeOf3
 v3:=Tryz.zeroValue3
 t4:=Tryz.underlying4
 a4:=Tryz.isAgg4
 z4:=Tryz.sizeOf4
 v4:=Tryz.zeroValue4
 t5:=Tryz.underlying5
 a5:=Tryz.isAgg5
 z5:=Tryz.sizeOf5
 v5:=Tryz.zeroValue5
 t9:=Tryz.underlying9
 a9:=Tryz.isAgg9
 z9:=Tryz.sizeOf9
 v9:=Tryz.zeroValue9
 t20:=Tryz.underlying20
 a20:=Tryz.isAgg20
 z20:=Tryz.sizeOf20
 v20:=Tryz.zeroValue20
 t37:=Tryz.underlying22
 a37:=Tryz.isAgg22
 z37:=Tryz.sizeOf22
 v37:=Tryz.zeroValue22
 t46:=Tryz.underlying294
 a46:=Tryz.isAgg294
 z46:=Tryz.sizeOf294
 v46:=Tryz.zeroValue294
 t51:=Tryz.underlying375
 a51:=Tryz.isAgg375
 z51:=Tryz.sizeOf375
 v51:=Tryz.zeroValue375
 t53:=Tryz.underlying128
 a53:=Tryz.isAgg128
 z53:=Tryz.sizeOf128
 v53:=Tryz.zeroValue128
 t171:=Tryz.underlying361
 a171:=Tryz.isAgg361
 z171:=Tryz.sizeOf361
 v171:=Tryz.zeroValue361
 t173:=Tryz.underlying364
 a173:=Tryz.isAgg364
 z173:=Tryz.sizeOf364
 v173:=Tryz.zeroValue364
 t212:=Tryz.underlying374
 a212:=Tryz.isAgg374
 z212:=Tryz.sizeOf374
 v212:=Tryz.zeroValue374
 t213:=Tryz.underlying376
 a213:=Tryz.isAgg376
 z213:=Tryz.sizeOf376
 t232:=Tryz.underlying394
 a232:=Tryz.isAgg394
 z232:=Tryz.sizeOf394
 v232:=Tryz.zeroValue394
 t233:=Tryz.underlying395
 a233:=Tryz.isAgg395
 z233:=Tryz.sizeOf395
 v233:=Tryz.zeroValue395
 g17:=by kernel_rfl
 g18:=by kernel_rfl
 g19:=by kernel_rfl
 i0:=by kernel_rfl
 i2:=by kernel_rfl
 i3:=by kernel_rfl
 i4:=by kernel_rfl
 i5:=by kernel_rfl
 i9:=by kernel_rfl
 i20:=by kernel_rfl
 i37:=by kernel_rfl
 i46:=by kernel_rfl
 i51:=by kernel_rfl
 i53:=by kernel_rfl
 i171:=by kernel_rfl
 i173:=by kernel_rfl
 i212:=by kernel_rfl
 i232:=by kernel_rfl
 i233:=by kernel_rfl
 m17:=by kernel_rfl
 m18:=by kernel_rfl
 m19:=by kernel_rfl}
open Go.RowKit Go.Sort Go.Lib in
theorem Tryz.strconv_Itoa (n:Int) (h0: -9223372036854775808≤n) (h1:n≤9223372036854775807) (w:World) (htab:Lib.TabIs Tryz.prog w "internal/strconv.uint64pow10" .u64 Lib.pow10Tab):
  Calls Tryz.prog 327 #[.int .i64 n] w fun e w'=>e= .returned (.string ⟨(Lib.itoa n).toArray⟩)∧ ∃k os,w'=grow (w.drewN k) os:=Any.strconv_Itoa Tryz.jv n h0 h1 w htab
def Tryz.gx:Go.Shelf.Ren:=⟨fun|172=>370|244=>382|245=>383|247=>393|279=>394|280=>395|281=>396|282=>397|287=>404|316=>405|171=>327|205=>406|321=>409|322=>410|243=>352|246=>371|283=>384|284=>385|285=>386|286=>387|129=>399|317=>398|318=>400|319=>401|320=>402|337=>407|338=>408|n=>n,fun|9=>9|3=>3|75=>332|76=>333|4=>4|5=>5|167=>367|37=>22|0=>0|85=>368|2=>2|168=>370|53=>128|175=>384|46=>294|210=>387|127=>350|145=>393|143=>391|21=>21|171=>361|173=>364|212=>374|51=>375|20=>20|213=>376|232=>394|233=>395|80=>290|n=>n,fun|15=>4|16=>5|17=>1|18=>6|19=>7|n=>n⟩
theorem Tryz.gf:Go.Proofs.LaysC.n172 Tryz.prog Tryz.gx:={
 mixed:=by kernel_rfl
 f129:=Tryz.func399.trans (congrArg some (by kernel_rfl))
 f171:=Tryz.func327.trans (congrArg some (by kernel_rfl))
 f172:=Tryz.func370.trans (congrArg some (by kernel_rfl))
 f205:=Tryz.func406.trans (congrArg some (by kernel_rfl))
 f243:=Tryz.func352.trans (congrArg some (by kernel_rfl))
 f244:=Tryz.func382.trans (congrArg some (by kernel_rfl))
 f245:=Tryz.func383.trans (congrArg some (by kernel_rfl))
 f246:=Tryz.func371.trans (congrArg some (by kernel_rfl))
 f247:=Tryz.func393.trans (congrArg some (by kernel_rfl))
 f279:=Tryz.func394.trans (congrArg some (by kernel_rfl))
 f280:=Tryz.func395.trans (congrArg some (by kernel_rfl))
 f281:=Tryz.func396.trans (congrArg some (by kernel_rfl))
 f282:=Tryz.func397.trans (congrArg some (by kernel_rfl))
 f283:=Tryz.func384.trans (congrArg some (by kernel_rfl))
 f284:=Tryz.func385.trans (congrArg some (by kernel_rfl))
 f285:=Tryz.func386.trans (congrArg some (by kernel_rfl))
 f286:=Tryz.func387.trans (congrArg some (by kernel_rfl))
 f287:=Tryz.func404.trans (congrArg some (by kernel_rfl))
 f316:=Tryz.func405.trans (congrArg some (by kernel_rfl))
 f317:=Tryz.func398.trans (congrArg some (by kernel_rfl))
 f318:=Tryz.func400.trans (congrArg some (by kernel_rfl))
 f319:=Tryz.func401.trans (congrArg some (by kernel_rfl))
 f320:=Tryz.func402.trans (congrArg some (by kernel_rfl))
 f321:=Tryz.func409.trans (congrArg some (by kernel_rfl))
 f322:=Tryz.func410.trans (congrArg some (by kernel_rfl))
 f337:=Tryz.func407.trans (congrArg some (by kernel_rfl))
 f338:=Tryz.func408.trans (congrArg some (by kernel_rfl))
 t0:=Tryz.underlying0
 a0:=Tryz.isAgg0
 z0:=Tryz.sizeOf0
 v0:=Tryz.zeroValue0
 t2:=Tryz.underlying2
 a2:=Tryz.isAgg2
 z2:=Tryz.sizeOf2
 v2:=Tryz.zeroValue2
 t3:=Tryz.underlying3
 a3:=Tryz.isAgg3
 z3:=Tryz.sizeOf3
 v3:=Tryz.zeroValue3
 t4:=Tryz.underlying4
 a4:=Tryz.isAgg4
 z4:=Tryz.sizeOf4
 v4:=Tryz.zeroValue4
 t5:=Tryz.underlying5
 a5:=Tryz.isAgg5
 z5:=Tryz.sizeOf5
 v5:=Tryz.zeroValue5
 t9:=Tryz.underlying9
 a9:=Tryz.isAgg9
 z9:=Tryz.sizeOf9
 v9:=Tryz.zeroValue9
 t20:=Tryz.underlying20
 a20:=Tryz.isAgg20
 z20:=Tryz.sizeOf20
 v20:=Tryz.zeroValue20
 t21:=Tryz.underlying21
 a21:=Tryz.isAgg21
 z21:=Tryz.sizeOf21
 v21:=Tryz.zeroValue21
 t37:=Tryz.underlying22
 a37:=Tryz.isAgg22
 z37:=Tryz.sizeOf22
 v37:=Tryz.zeroValue22
 t46:=Tryz.underlying294
 a46:=Tryz.isAgg294
 z46:=Tryz.sizeOf294
 v46:=Tryz.zeroValue294
 t51:=Tryz.underlying375
 a51:=Tryz.isAgg375
 z51:=Tryz.sizeOf375
 v51:=Tryz.zeroValue375
 t53:=Tryz.underlying128
 a53:=Tryz.isAgg128
 z53:=Tryz.sizeOf128
 v53:=Tryz.zeroValue128
 t75:=Tryz.underlying332
 a75:=Tryz.isAgg332
 z75:=Tryz.sizeOf332
 v75:=Tryz.zeroValue332
 t76:=Tryz.underlying333
 a76:=Tryz.isAgg333
 z76:=Tryz.sizeOf333
 v76:=Tryz.zeroValue333
 t85:=Tryz.underlying368
 a85:=Tryz.isAgg368
 z85:=Tryz.sizeOf368
 v85:=Tryz.zeroValue368
 t127:=Tryz.underlying350
 a127:=Tryz.isAgg350
 z127:=Tryz.sizeOf350
 v127:=Tryz.zeroValue350
 t143:=Tryz.underlying391
 a143:=Tryz.isAgg391
 z143:=Tryz.sizeOf391
 v143:=Tryz.zeroValue391
 t145:=Tryz.underlying393
 a145:=Tryz.isAgg393
 z145:=Tryz.sizeOf393
 v145:=Tryz.zeroValue393
 t167:=Tryz.underlying367
 a167:=Tryz.isAgg367
 z167:=Tryz.sizeOf367
 v167:=Tryz.zeroValue367
 t168:=Tryz.underlying370
 a168:=Tryz.isAgg370
 z168:=Tryz.sizeOf370
 v168:=Tryz.zeroValue370
 t171:=Tryz.underlying361
 a171:=Tryz.isAgg361
 z171:=Tryz.sizeOf361
 v171:=Tryz.zeroValue361
 t173:=Tryz.underlying364
 a173:=Tryz.isAgg364
 z173:=Tryz.sizeOf364
 v173:=Tryz.zeroValue364
 t175:=Tryz.underlying384
 a175:=Tryz.isAgg384
 z175:=Tryz.sizeOf384
 v175:=Tryz.zeroValue384
 t210:=Tryz.underlying387
 a210:=Tryz.isAgg387
 z210:=Tryz.sizeOf387
 v210:=Tryz.zeroValue387
 t212:=Tryz.underlying374
 a212:=Tryz.isAgg374
 z212:=Tryz.sizeOf374
 v212:=Tryz.zeroValue374
 t213:=Tryz.underlying376
 a213:=Tryz.isAgg376
 z213:=Tryz.sizeOf376
 t232:=Tryz.underlying394
 a232:=Tryz.isAgg394
 z232:=Tryz.sizeOf394
 v232:=Tryz.zeroValue394
 t233:=Tryz.underlying395
 a233:=Tryz.isAgg395
 z233:=Tryz.sizeOf395
 v233:=Tryz.zeroValue395
 g15:=by kernel_rfl
 g16:=by kernel_rfl
 g17:=by kernel_rfl
 g18:=by kernel_rfl
 g19:=by kernel_rfl
 t80:=Tryz.underlying290
 a80:=Tryz.isAgg290
 z80:=Tryz.sizeOf290
 v80:=Tryz.zeroValue290
 i0:=by kernel_rfl
 i2:=by kernel_rfl
 i3:=by kernel_rfl
 i4:=by kernel_rfl
 i5:=by kernel_rfl
 i9:=by kernel_rfl
 i20:=by kernel_rfl
 i21:=by kernel_rfl
 i37:=by kernel_rfl
 i46:=by kernel_rfl
 i51:=by kernel_rfl
 i53:=by kernel_rfl
 i75:=by kernel_rfl
 i76:=by kernel_rfl
 i80:=by kernel_rfl
 i85:=by kernel_rfl
 i127:=by kernel_rfl
 i143:=by kernel_rfl
 i145:=by kernel_rfl
 i167:=by kernel_rfl
 i168:=by kernel_rfl
 i171:=by kernel_rfl
 i173:=by kernel_rfl
 i175:=by kernel_rfl
 i210:=by kernel_rfl
 i212:=by kernel_rfl
 i232:=by kernel_rfl
 i233:=by kernel_rfl
 m15:=by kernel_rfl
 m16:=by kernel_rfl
 m17:=by kernel_rfl
 m18:=by kernel_rfl
 m19:=by kernel_rfl
 c0:=by kernel_rfl
 c2:=by kernel_rfl
 c3:=by kernel_rfl
 c4:=by kernel_rfl
 c5:=by kernel_rfl
 c9:=by kernel_rfl
 c20:=by kernel_rfl
 c21:=by kernel_rfl
 c37:=by kernel_rfl
 c46:=by kernel_rfl
 c51:=by kernel_rfl
 c53:=by kernel_rfl
 c75:=by kernel_rfl
 c76:=by kernel_rfl
 c80:=by kernel_rfl
 c85:=by kernel_rfl
 c127:=by kernel_rfl
 c143:=by kernel_rfl
 c145:=by kernel_rfl
 c167:=by kernel_rfl
 c168:=by kernel_rfl
 c171:=by kernel_rfl
 c173:=by kernel_rfl
 c175:=by kernel_rfl
 c210:=by kernel_rfl
 c212:=by kernel_rfl
 c213:=by kernel_rfl
 c232:=by kernel_rfl
 c233:=by kernel_rfl}
open Go.RowKit in
theorem Tryz.strconv_Atoi_ok (s:ByteArray) (hmax:s.size≤9223372036854775806) (v:Int) (h:Lib.atoiAll s.data.toList= .ok v) (w:World):
  Calls Tryz.prog 370 #[.string s] w fun e w'=>e= .returned (.tuple #[.int .i64 v, .nilIface])∧(w'=w∨ ∃t,w'=Lib.bytesWorld w 5 t):=Any.strconv_Atoi_ok Tryz.gf s hmax v h w
def Tryz.ib:Go.Shelf.Ren:=⟨fun|217=>350|266=>369|n=>n,fun|9=>9|5=>5|3=>3|n=>n,fun|n=>n⟩
theorem Tryz.kz:Go.Proofs.Lays.n217 Tryz.prog Tryz.ib:={
 mixed:=by kernel_rfl
 f217:=Tryz.func350.trans (congrArg some (by kernel_rfl))
 f266:=Tryz.func369.trans (congrArg some (by kernel_rfl))
 t3:=Tryz.underlying3
 a3:=Tryz.isAgg3
 z3:=Tryz.sizeOf3
 v3:=Tryz.zeroValue3
 t5:=Tryz.underlying5
 a5:=Tryz.isAgg5
 z5:=Tryz.sizeOf5
 v5:=Tryz.zeroValue5
 t9:=Tryz.underlying9
 a9:=Tryz.isAgg9
 z9:=Tryz.sizeOf9
 v9:=Tryz.zeroValue9}
open Go.RowKit Go.Lib in
theorem Tryz.stringslite_IndexByte (s:ByteArray) (c:Int) (w:World):
  Calls Tryz.prog 350 #[.string s, .int .u8 c] w fun e w'=>e= .returned (.int .i64 (Lib.indexByte s.data.toList c.toNat.toUInt8))∧w'=w:=Any.stringslite_IndexByte Tryz.kz s c w
def Tryz.ie:Go.Shelf.Ren:=⟨fun|219=>376|217=>350|225=>389|224=>390|267=>391|266=>369|314=>403|n=>n,fun|9=>9|3=>3|4=>4|5=>5|46=>294|146=>378|51=>375|n=>n,fun|1=>0|n=>n⟩
theorem Tryz.ku:Go.Proofs.Lays.n219 Tryz.prog Tryz.ie:={
 mixed:=by kernel_rfl
 f217:=Tryz.func350.trans (congrArg some (by kernel_rfl))
 f219:=Tryz.func376.trans (congrArg some (by kernel_rfl))
 f224:=Tryz.func390.trans (congrArg some (by kernel_rfl))
 f225:=Tryz.func389.trans (congrArg some (by kernel_rfl))
 f266:=Tryz.func369.trans (congrArg some (by kernel_rfl))
 f267:=Tryz.func391.trans (congrArg some (by kernel_rfl))
 f314:=Tryz.func403.trans (congrArg some (by kernel_rfl))
 t3:=Tryz.underlying3
 a3:=Tryz.isAgg3
 z3:=Tryz.sizeOf3
 v3:=Tryz.zeroValue3
 t4:=Tryz.underlying4
 a4:=Tryz.isAgg4
 z4:=Tryz.sizeOf4
 v4:=Tryz.zeroValue4
 t5:=Tryz.underlying5
 a5:=Tryz.isAgg5
 z5:=Tryz.sizeOf5
 v5:=Tryz.zeroValue5
 t9:=Tryz.underlying9
 a9:=Tryz.isAgg9
 z9:=Tryz.sizeOf9
 v9:=Tryz.zeroValue9
 t46:=Tryz.underlying294
 a46:=Tryz.isAgg294
 z46:=Tryz.sizeOf294
 v46:=Tryz.zeroValue294
 t51:=Tryz.underlying375
 a51:=Tryz.isAgg375
 z51:=Tryz.sizeOf375
 v51:=Tryz.zeroValue375
 t146:=Tryz.underlying378
 a146:=Tryz.isAgg378
 z146:=Tryz.sizeOf378
 v146:=Tryz.zeroValue378
 g1:=by kernel_rfl}
open Go.RowKit Go.Lib in
theorem Tryz.stringslite_Index_one (s:ByteArray) (c:UInt8) (w:World):
  Calls Tryz.prog 376 #[.string s, .string ⟨#[c]⟩] w fun e w'=>e= .returned (.int .i64 (Lib.indexByte s.data.toList c))∧w'=w:=Any.stringslite_Index_one Tryz.ku s c w
def Tryz.ij:Go.Shelf.Ren:=⟨fun|138=>367|195=>379|218=>381|143=>368|219=>376|217=>350|225=>389|224=>390|267=>391|266=>369|314=>403|n=>n,fun|9=>9|3=>3|4=>4|5=>5|0=>0|46=>294|146=>378|51=>375|n=>n,fun|1=>0|n=>n⟩
theorem Tryz.ld:Go.Proofs.Lays.n138 Tryz.prog Tryz.ij:={
 mixed:=by kernel_rfl
 f138:=Tryz.func367.trans (congrArg some (by kernel_rfl))
 f143:=Tryz.func368.trans (congrArg some (by kernel_rfl))
 f195:=Tryz.func379.trans (congrArg some (by kernel_rfl))
 f217:=Tryz.func350.trans (congrArg some (by kernel_rfl))
 f218:=Tryz.func381.trans (congrArg some (by kernel_rfl))
 f219:=Tryz.func376.trans (congrArg some (by kernel_rfl))
 f224:=Tryz.func390.trans (congrArg some (by kernel_rfl))
 f225:=Tryz.func389.trans (congrArg some (by kernel_rfl))
 f266:=Tryz.func369.trans (congrArg some (by kernel_rfl))
 f267:=Tryz.func391.trans (congrArg some (by kernel_rfl))
 f314:=Tryz.func403.trans (congrArg some (by kernel_rfl))
 t0:=Tryz.underlying0
 a0:=Tryz.isAgg0
 z0:=Tryz.sizeOf0
 v0:=Tryz.zeroValue0
 t3:=Tryz.underlying3
 a3:=Tryz.isAgg3
 z3:=Tryz.sizeOf3
 v3:=Tryz.zeroValue3
 t4:=Tryz.underlying4
 a4:=Tryz.isAgg4
 z4:=Tryz.sizeOf4
 v4:=Tryz.zeroValue4
 t5:=Tryz.underlying5
 a5:=Tryz.isAgg5
 z5:=Tryz.sizeOf5
 v5:=Tryz.zeroValue5
 t9:=Tryz.underlying9
 a9:=Tryz.isAgg9
 z9:=Tryz.sizeOf9
 v9:=Tryz.zeroValue9
 t46:=Tryz.underlying294
 a46:=Tryz.isAgg294
 z46:=Tryz.sizeOf294
 v46:=Tryz.zeroValue294
 t51:=Tryz.underlying375
 a51:=Tryz.isAgg375
 z51:=Tryz.sizeOf375
 v51:=Tryz.zeroValue375
 t146:=Tryz.underlying378
 a146:=Tryz.isAgg378
 z146:=Tryz.sizeOf378
 v146:=Tryz.zeroValue378
 g1:=by kernel_rfl}
open Go.RowKit Go.Lib in
theorem Tryz.strings_Count_one (s:ByteArray) (c:UInt8) (w:World):
  Calls Tryz.prog 367 #[.string s, .string ⟨#[c]⟩] w fun e w'=>e= .returned (.int .i64 (Lib.countByte s.data.toList c))∧w'=w:=Any.strings_Count_one Tryz.ld s c w
end Go.Proofs
end
section
namespace Go.Proofs.YtgobcjbjogkpjaaGreatDoor
open Go.RowKit
set_option maxRecDepth 100000
theorem zmI: ∀(l:List UInt8) (c:UInt8), -1≤Lib.indexByte l c∧Lib.indexByte l c<l.length∨Lib.indexByte l c= -1
 | [],_=> .inr rfl
 |b::l,c=>by
  unfold Lib.indexByte
  rcases zmI l c with h|h
  ·split
   ·left;simp
   ·split
    ·exact .inr rfl
    ·left;rw [yqlc];omega
  ·rw [h]
   split
   ·left;simp
   ·right;rfl
theorem zv5 {n:Int} (h1: -9223372036854775808≤n) (h2:n≤9223372036854775807):InK .i64 n:=zaI h1 h2
theorem zHX {b:ByteArray} {c:UInt8} (h:b.data.toList= [c]):b=⟨#[c]⟩:=by
 cases b with
 |mk d=>cases d with
  |mk l=>simp at h;rw [h]
def zbu (s:List UInt8) (c:Int):Option Int:=some (Lib.indexByte s c.toNat.toUInt8)
theorem zh4 (a0:List UInt8) (a1 r:Int) (h:zbu a0 a1=some r):Rts Tryz.prog sgs 350 [.str a0, .int .u8 a1] (.int .i64 r):=zvd (by kernel_rfl) fun w vs rf hr=>by
 obtain⟨b,us,rfl,rfl,hb,hr⟩:=zpw hr
 obtain⟨us1,rfl,_,hr⟩:=zxb hr
 obtain⟨rfl,rfl⟩:=zmf hr
 refine(Tryz.stringslite_IndexByte b a1 w).mono ?_
 rintro e w' ⟨rfl,rfl⟩
 cases h
 have hl:b.data.toList.length≤9223372036854775807:=by rw [Array.length_toList];exact hb
 exact⟨Mod.refl [] _,_, [],rfl, .int (by rcases zmI b.data.toList a1.toNat.toUInt8 with h|h<;>exact zv5 (by omega) (by omega)) .nil,by simp⟩
def za6 (s sub:List UInt8):Option Int:=match sub with| [c]=>some (Lib.indexByte s c)|_=>none
theorem zjK (a0 a1:List UInt8) (r:Int) (h:za6 a0 a1=some r):Rts Tryz.prog sgs 376 [.str a0, .str a1] (.int .i64 r):=zvd (by kernel_rfl) fun w vs rf hr=>by
 obtain⟨b,us,rfl,rfl,hb,hr⟩:=zpw hr
 obtain⟨b1,us1,rfl,h1,_,hr⟩:=zpw hr
 obtain⟨rfl,rfl⟩:=zmf hr
 match a1,h,h1 with
 | [c],h,h1=>
  have:=zHX h1
  subst this
  refine(Tryz.stringslite_Index_one b c w).mono ?_
  rintro e w' ⟨rfl,rfl⟩
  cases h
  have hl:b.data.toList.length≤9223372036854775807:=by rw [Array.length_toList];exact hb
  exact⟨Mod.refl [] _,_, [],rfl, .int (by rcases zmI b.data.toList c with h|h<;>exact zv5 (by omega) (by omega)) .nil,by simp⟩
 | [],h,_=>cases h
 |_::_::_,h,_=>cases h
def zhk (s sub:List UInt8):Option Int:=match sub with| [c]=>some (Lib.countByte s c:Int)|_=>none
theorem ztv (a0 a1:List UInt8) (r:Int) (h:zhk a0 a1=some r):Rts Tryz.prog sgs 367 [.str a0, .str a1] (.int .i64 r):=zvd (by kernel_rfl) fun w vs rf hr=>by
 obtain⟨b,us,rfl,rfl,hb,hr⟩:=zpw hr
 obtain⟨b1,us1,rfl,h1,_,hr⟩:=zpw hr
 obtain⟨rfl,rfl⟩:=zmf hr
 match a1,h,h1 with
 | [c],h,h1=>
  have:=zHX h1
  subst this
  refine(Tryz.strings_Count_one b c w).mono ?_
  rintro e w' ⟨rfl,rfl⟩
  cases h
  have hl:b.data.toList.length≤9223372036854775807:=by rw [Array.length_toList];exact hb
  have:Lib.countByte b.data.toList c≤b.data.toList.length:=List.count_le_length
  exact⟨Mod.refl [] _,_, [],rfl, .int (zv5 (by omega) (by omega)) .nil,by simp⟩
 | [],h,_=>cases h
 |_::_::_,h,_=>cases h
def ziq (_:List UInt8) (_:Int):Option (List (List UInt8)):=none
theorem zp3 (a0:List UInt8) (a1:Int) (r:List (List UInt8)) (h:ziq a0 a1=some r):Rts Tryz.prog sgs 366 [.str a0, .int .i64 a1] (.sl (r.map znM)):=by cases h
noncomputable def zi6 (xs:List (List UInt8)) (sep:List UInt8):Option (List UInt8):=req (xs.length≤140737488355328∧(Lib.join xs sep).length≤140737488355328) (some (Lib.join xs sep))
theorem zqX {w:World}: ∀{cs:List Value} {xs:List (List UInt8)} {f:List Nat},Rd w cs (zaB (xs.map znM)) f→ ∃bs:List ByteArray,cs=bs.map Value.string∧bs.map (·.data.toList)=xs
 |cs, [],f,h=>by
  obtain⟨rfl,_⟩:=zmf (by simpa [zaB]using h)
  exact⟨[],rfl,rfl⟩
 |cs,x::xs,f,h=>by
  have h':Rd w cs (.str x::zaB (xs.map znM)) f:=by simpa [zaB]using h
  obtain⟨b,us,rfl,rfl,_,h2⟩:=zpw h'
  obtain⟨bs,rfl,rfl⟩:=zqX h2
  exact⟨b::bs,rfl,rfl⟩
theorem zue (a0:List (List UInt8)) (a1 r:List UInt8) (h:zi6 a0 a1=some r):Rts Tryz.prog sgs 274 [.sl (a0.map znM), .str a1] (.str r):=zvd (by kernel_rfl) fun w vs rf hr=>by
 obtain⟨⟨hq1,hq2⟩,h⟩:=zxK h
 cases h
 generalize hx:a0.map znM=ys at hr
 cases hr with
 |eg hr=>
  obtain⟨b1,us1,rfl,rfl,_,hr⟩:=zpw hr
  obtain⟨rfl,rfl⟩:=zmf hr
  have:a0= []:=by simpa using hx
  subst this
  refine(Tryz.strings_Join_none _ _ b1 w).mono ?_
  rintro e w' ⟨rfl,rfl⟩
  exact⟨Mod.refl [] _,_, [],rfl, .str (by simp [ByteArray.size]) .nil,by simp⟩
 |fq hb h1 h2 h3 h4 h5 h6 h6' h7 hr=>
  rename_i bk o n c cs C t fz sz f1 vs f
  obtain⟨b1,us1,rfl,rfl,_,hr⟩:=zpw hr
  obtain⟨rfl,rfl⟩:=zmf hr
  subst hx
  obtain⟨bs,rfl,rfl⟩:=zqX h7
  have hn:n=bs.length:=by simpa using h3.symm
  subst hn
  have hbk:bk<w.heap.size:=zbH hb
  refine(Tryz.strings_Join bk o c bs b1 w (fun j x hx=> ?_) hbk (by simpa using hq1) h2.2 hq2).mono ?_
  ·have:=h6 j (.string x) (by simp [hx])
   rw [zay hb];exact this
  ·rintro e w' ⟨rfl,hbel⟩
   exact⟨.ek hbel (Nat.le_refl _),_, [],rfl, .str (by simp [ByteArray.size];omega) .nil,by simp⟩
theorem zjN {P:Program} (w:World) (dT sT ty elem:TypeId) (k:Nat) (g o dLen dCap:Nat) (a:Addr) (sLen sCap:Nat) (cur:Array Value) (t:TypeId) (cs:List Value)
  (hu:P.underlying dT=some (.slice elem)) (hs:(P.info? elem).map (·.size)=some k)
  (hg:w.heap[g]?=some (.cells cur t (0,0))) (hn:cs.length=Nat.min sLen dLen*k)
  (hsrc: ∀j v,cs[j]?=some v→w.cell? (a.add j)=some v) (hfit:o+cs.length≤cur.size) (h1: ∀v∈cs,v.oneCell'=true):
  (Builtin.copy_ #[dT,sT] ty #[.slice (some ⟨g,o,none⟩) dLen dCap, .slice (some a) sLen sCap]).run P w=
   .ok (goInt (Nat.min sLen dLen)) (w.setRow g (cur.toList.take o++cs++cur.toList.drop (o+cs.length)).toArray):=by
 have hl:=run_loadCells_list (P:=P) w a cs hsrc
 have hst:=run_storeCells_at P g o t cs 0 cur w hg (by simpa using hfit) h1
 cases hq:P.info? elem with
 |none=>simp [hq]at hs
 |some i=>
  have hi:i.size=k:=by simpa [hq]using hs
  rw [hn]at hl
  simp [Builtin.copy_,run_underlying hu,Builtin.lenOf,Builtin.firstCells,sizeOf,typeInfo,hq,hi,hl,hst]
theorem zl6 {P:Program} (w:World) {ops:Array Oper} {rest:List Oper} {o:Oper} {a:Act} {Q:Exit→Act→World→Prop} (hgd:o.guard=none) (d s:Operand) (t t':TypeId)
  (ho:o.op= .call {callee:= .builtin .copy,args:= #[d,s],argTypes:= #[t,t']}) (v u:Value) (hd:a.eval d=v) (hs:a.eval s=u) {v':Value} {w':World}
  (hr:(Builtin.copy_ #[t,t'] o.type #[v,u]).run P w= .ok v' w') (h:wpList P ops Q rest (a.put o.dst v') w'):wpList P ops Q (o::rest) a w:=
 wpList_plain hgd fun _ hK=>by
  unfold Oper.wp execOp
  simp only [ho,resolve,invoke,builtin,Sem.run_bind,Sem.run_pure,Result.andThen_ok,List.map_toArray,List.map_cons,List.map_nil,hd,hs,hr]
  exact hK _ _ h
theorem zty {P:Program} {ops:Array Oper} {o:Oper} {a:Act} {w:World} {K:Act→World→Prop} {Q:Exit→Act→World→Prop} {E:Prop}
  (hg:o.guard=none) (d x:Operand) (dT sT:TypeId) (hop:o.op=Op.call {callee:=Callee.builtin Builtin.copy,args:= #[d,x],argTypes:= #[dT,sT]})
  (v u:Value) (hd:a.eval d=v) (hx:a.eval x=u) {v':Value} {w':World} (hr:(Builtin.copy_ #[dT,sT] o.type #[v,u]).run P w= .ok v' w') (hK:K (a.put o.dst v') w'):
  if Region.wanted o (yielded ops a.tmps)=true then Oper.wp P o a w K Q else E:=by
 have hw:Region.wanted o (yielded ops a.tmps)=true:=by simp [Region.wanted,hg]
 rw [if_pos hw]
 unfold Oper.wp
 simp [execOp,hop,resolve,invoke,builtin,hd,hx,hr,Result.andThen]
 exact hK
def zym (w:World) (el:TypeId) (k:Nat) (g cap:Nat) (C:Array Value) (n:Nat) (cs:List Value):Prop:=
 n≤cap∧cap≤maxLen∧w.heap[g]?=some (.cells C el (0,0))∧C.size=cap*k∧cs=C.toList.take (n*k)
def zGQ (w w':World) (el:TypeId) (k:Nat) (own:List Nat) (v:Value) (n:Nat) (cs:List Value):Prop:=
 ∃g cap C,v= .slice (some ⟨g,0,none⟩) n cap∧zym w' el k g cap C n cs∧Mod own w w'∧(g∈own∨w.heap.size≤g)
def zGY (P:Program) (f:Nat) (el:TypeId) (k:Nat):Prop:=
 ∀(w:World) (v:Value) (n i:Nat) (cs:List Value) (own:List Nat) (vb vc m:Nat) (VC:Array Value) (vs:List Value),cs.length=n*k→
  ((n=0∧ ∃q,v= .slice q 0 0)∨ ∃g cap C,v= .slice (some ⟨g,0,none⟩) n cap∧zym w el k g cap C n cs∧g∈own)→i≤n→zym w el k vb vc VC m vs→(∀g∈own,vb≠g)→0<m→(n+m)*1000≤140737488355328→
  (∀u∈vs,u.oneCell'=true)→(∀u∈cs,u.oneCell'=true)→
  Calls P f #[v, .int .i64 i, .slice (some ⟨vb,0,none⟩) m vc] w fun e w'=> ∃u,e= .returned u∧zGQ w w' el k own u (n+m) (cs.take (i*k)++vs++cs.drop (i*k))
theorem zym.cell {w:World} {el:TypeId} {k g cap:Nat} {C:Array Value} {n:Nat} {cs:List Value} (h:zym w el k g cap C n cs) (off j:Nat) (v:Value) (hj:(cs.drop off)[j]?=some v):w.cell? ((⟨g,off,none⟩:Addr).add j)=some v:=by
 obtain⟨_,_,h3,_,h5⟩:=h
 rw [Addr.add_lit,zay h3]
 rw [List.getElem?_drop,h5,List.getElem?_take]at hj
 split at hj
 ·simpa using hj
 ·cases hj
theorem zym.len {w:World} {el:TypeId} {k g cap:Nat} {C:Array Value} {n:Nat} {cs:List Value} (h:zym w el k g cap C n cs):cs.length=n*k:=by
 obtain⟨h1,_,_,h4,h5⟩:=h
 have:=Nat.mul_le_mul_right k h1
 rw [h5,List.length_take,Array.length_toList];omega
theorem zIY {α:Type} (cur cs vs:List α) (i m n:Nat) (hc:cs=cur.take n) (hi:i≤n) (hv:vs.length=m) (hn:n+m≤cur.length):
  let c1:=cur.take (i+m)++cs.drop i++cur.drop (i+m+(cs.drop i).length)
  (c1.take i++vs++c1.drop (i+vs.length)).take (n+m)=cs.take i++vs++cs.drop i:=by
 have hcl:cs.length=n:=by rw [hc,List.length_take];omega
 have hd:(cs.drop i).length=n-i:=by rw [List.length_drop,hcl]
 intro c1
 have e1:c1.take i=cs.take i:=by
  show(cur.take (i+m)++cs.drop i++_).take i=_
  rw [List.append_assoc,List.take_append_of_le_length (by rw [List.length_take];omega),List.take_take,hc,List.take_take]
  congr 1;omega
 have e2:c1.drop (i+vs.length)=cs.drop i++cur.drop (i+m+(cs.drop i).length):=by
  show(cur.take (i+m)++cs.drop i++_).drop _=_
  rw [List.append_assoc,List.drop_append_of_le_length (by rw [List.length_take,hv];omega),List.drop_eq_nil_of_le (by rw [List.length_take,hv];omega),List.nil_append]
 rw [e1,e2]
 have l1:(cs.take i++vs++cs.drop i).length=n+m:=by
  simp only [yqla,List.length_take,hv,hd,hcl];omega
 rw [←List.append_assoc,←l1,List.take_left]
theorem two {α:Type} (zs cs vs:List α) (i m n:Nat) (cur:List α) (hcur:cur=cs.take i++zs) (hcl:cs.length=n) (hi:i≤n) (hv:vs.length=m) (hz:n+m-i≤zs.length):
  let c1:=cur.take i++vs++cur.drop (i+vs.length)
  (c1.take (i+m)++cs.drop i++c1.drop (i+m+(cs.drop i).length)).take (n+m)=cs.take i++vs++cs.drop i:=by
 have ht:(cs.take i).length=i:=by rw [List.length_take];omega
 intro c1
 have e1:c1=cs.take i++vs++cur.drop (i+vs.length):=by
  show cur.take i++vs++cur.drop (i+vs.length)=_
  rw [hcur]
  congr 2
  rw [List.take_append_of_le_length (by omega),List.take_take,Nat.min_self]
 have e2:c1.take (i+m)=cs.take i++vs:=by
  have l2:(cs.take i++vs).length=i+m:=by rw [yqla,ht,hv]
  rw [e1,←l2,List.take_left]
 rw [e2]
 have l1:(cs.take i++vs++cs.drop i).length=n+m:=by
  simp only [yqla,ht,hv,List.length_drop,hcl];omega
 rw [←l1,List.take_left]
theorem zsN (xs ys:List AV):zaB (xs++ys)=zaB xs++zaB ys:=by simp [zaB]
theorem zAN {K:Nat} {xs:List AV} (h: ∀y∈xs,y.cells.length=K) {i:Nat} (hi:i≤xs.length):zaB (xs.take i)=(zaB xs).take (i*K)∧zaB (xs.drop i)=(zaB xs).drop (i*K):=by
 have l1:(zaB (xs.take i)).length=i*K:=by rw [zjk _ fun y hy=>h y (List.mem_of_mem_take hy),List.length_take,Nat.min_eq_left hi]
 have e:zaB xs=zaB (xs.take i)++zaB (xs.drop i):=by rw [←zsN,List.take_append_drop]
 rw [e,←l1,List.take_left,List.drop_left]
 exact⟨rfl,rfl⟩
theorem zc2.mv {w:World} {el K:Nat} {v:Value} {x:AV} {top:List Nat} (h:zc2 w el K v x top []): ∃xs cs,x= .sl xs∧0<K∧(∀y∈xs,y.cells.length=K)∧cs.length=xs.length*K∧Rd w cs (zaB xs) []∧(∀u∈cs,u.oneCell'=true)∧
  ((xs= []∧top= []∧ ∃q,v= .slice q 0 0)∨ ∃g cap C,v= .slice (some ⟨g,0,none⟩) xs.length cap∧zym w el K g cap C xs.length cs∧top= [g]):=by
 obtain⟨xs,rfl,h2,h3,⟨rfl,⟨a,hv⟩,rfl,_⟩|⟨g,cap,C,rfl,h6,h7,h8,h9,rfl,h10,h11⟩⟩:=h
 ·exact⟨[], [],rfl,h3,h2,by simp,by simpa [zaB]using Rd.nil,by simp, .inl ⟨rfl,rfl,a,hv⟩⟩
 ·exact⟨xs,_,rfl,h3,h2,(zym.len ⟨h6,h7,h8,h9,rfl⟩),h11,h10, .inr ⟨g,cap,C,rfl,⟨h6,h7,h8,h9,rfl⟩,rfl⟩⟩
theorem zxW {P:Program} {w:World} {t el:TypeId} {v:Value} {x:AV} {rf hs:List Nat} (ha:zaX P t=false) (hl:zau P t= [t]) (he:zfF P t=some el) (hf:zdR P el=true) (h:zyE P w t [true] v x rf hs):rf= []∧zc2 w el (P.cellsOf el) v x hs []:=by
 obtain⟨us,ys,h1,h2⟩:=h
 rw [ha]at h1
 simp only [yqft,if_false]at h1
 obtain⟨rfl,rfl⟩:=h1
 rw [hl]at h2
 cases h2 with
 |own q1 q2 q3 q4 q5=>
  cases q5
  rw [he]at q2;cases q2
  rcases q3 with⟨_,rfl⟩|⟨h,_⟩
  ·exact⟨rfl,by simpa using q4⟩
  ·rw [hf]at h;cases h
 |deep q1 q2 q3=>
  rw [he]at q2;cases q2
  rw [hf]at q3;cases q3
 |rd q1=>
  have:=q1 rfl
  rw [he]at this;cases this
def zI6 (P:Program) (sg:SgT) (f:Nat) (t it el K:Nat):Bool:=
 match P.funcs[f]?,sg f with
 |some fn,some s=>(match s.cq,s.res,s.ft,s.lo with
  | [.va [true], .ro, .va [true]], [true], [], []=>true
  |_,_,_,_=>false)&&fn.body.isSome&& !(fn.name== "runtime.NumGoroutine")&&fn.params.toList== [t,it,t]&&fn.resultTypes.toList== [t]&&fn.nfree==0&& !zaX P t&&zau P t== [t]&&zfF P t==some el&&zdR P el&&P.cellsOf el==K&&znI P t [true]&&fn.params.size==3
 |_,_=>false
def zHb (P:Program) (sg:SgT) (f:Nat) (r:List AV):Bool:=match P.funcs[f]?,sg f with
 |some fn,some s=>zmF P fn s (.sl r)
 |_,_=>false
theorem zHf {f t it el K:Nat} (hk:zI6 Tryz.prog sgs f t it el K=true) (hfl: ∀r,zHb Tryz.prog sgs f r=true) (hins:zGY Tryz.prog f el K) (xs ys:List AV) (i:Int) (h0:0≤i) (h1:i≤xs.length) (hy:ys≠ []) (hb:(xs.length+ys.length)*1000≤140737488355328):
  Rts Tryz.prog sgs f [.sl xs, .int .i64 i, .sl ys] (.sl (xs.take i.toNat++ys++xs.drop i.toNat)):=by
 unfold zI6 at hk
 split at hk
 ·rename_i fn s hf hs
  simp only [yqba,Bool.not_eq_true',beq_iff_eq]at hk
  obtain⟨⟨⟨⟨⟨⟨⟨⟨⟨⟨⟨⟨g1,g2⟩,g3⟩,g4⟩,g5⟩,g6⟩,g7⟩,g8⟩,g9⟩,g10⟩,g11⟩,g12⟩,g13⟩:=hk
  obtain⟨hm,hr,hft,hlo⟩:s.cq= [.va [true], .ro, .va [true]]∧s.res= [true]∧s.ft= []∧s.lo= []:=by
   split at g1
   ·rename_i a b c d;exact⟨a,b,c,d⟩
   ·cases g1
  unfold Rts
  rw [if_pos (zuV f s hs)]
  refine⟨s,hs,fn,hf,g2,g3,by have:=hfl (xs.take i.toNat++ys++xs.drop i.toNat);unfold zHb at this;rw [hf,hs]at this;exact this,by simp [g6,g13],by simp [hft],fun w vs rf lf hs' hargs hd _ hnd hpk=> ?_⟩
  rw [g4,hft,List.append_nil,hm,hlo]at hargs
  cases hargs with
  |lent h _ _ _=>cases h
  | @cons _ _ _ _ v1 vs1 _ _ f1 k1 rf1 lf1 hs1 a1 hargs=>
   cases hargs with
   |lent h _ _ _=>cases h
   | @cons _ _ _ _ v2 vs2 _ _ f2 k2 rf2 lf2 hs2 a2 hargs=>
    cases hargs with
    |lent h _ _ _=>cases h
    | @cons _ _ _ _ v3 vs3 _ _ f3 k3 rf3 lf3 hs3 a3 hargs=>
     cases hargs
     obtain⟨rfl,r1⟩:=zxW g7 g8 g9 g10 a1
     obtain⟨rfl,r3⟩:=zxW g7 g8 g9 g10 a3
     obtain⟨a2,rfl⟩:Rd w [v2] [AV.int .i64 i] f2∧k2= []:=a2
     obtain⟨us,rfl2,hI,a2⟩:=zxb a2
     obtain⟨rfl,rfl⟩:=zmf a2
     cases rfl2
     obtain⟨xs',cs,e1,p0,p1,p2,p3,p4,p5⟩:=r1.mv
     cases e1
     obtain⟨ys',cv,e2,_,q1,q2,q3,q4,q5⟩:=r3.mv
     cases e2
     rw [g11]at p0 p1 p2 p5 q1 q2 q5
     obtain⟨vb,vc,VC,rfl,hv,rfl⟩: ∃g cap C,v3= .slice (some ⟨g,0,none⟩) ys.length cap∧zym w el K g cap C ys.length cv∧k3= [g]:=by
      rcases q5 with⟨h,_⟩|h
      ·exact absurd h hy
      ·exact h
     have hnd':k1++ [vb]=k1++([]++([vb]++ [])):=by simp
     have hap: ∀g∈k1,vb≠g:=by
      intro g hg e
      subst e
      have:=(List.nodup_append.1 hnd).2.2 vb hg vb (by simp)
      exact this rfl
     have hym:0<ys.length:=by cases ys with|nil=>exact absurd rfl hy|cons=>simp
     have hc:=hins w v1 xs.length i.toNat cs k1 vb vc ys.length VC cv p2 (by
      rcases p5 with⟨rfl,_,q,rfl⟩|⟨g,cap,C,rfl,h,rfl⟩
      ·exact .inl ⟨rfl,q,rfl⟩
      ·exact .inr ⟨g,cap,C,rfl,h,by simp⟩) (by omega) hv hap hym hb q4 p4
     rw [show((i.toNat:Nat):Int)=i by omega]at hc
     refine hc.mono ?_
     rintro e w' ⟨u,rfl,g,cap,C,rfl,⟨z1,z2,z3,z4,z5⟩,hmod,hgo⟩
     have hfr: ∀{us:List Value} {zs:List AV},Rd w us zs []→Rd w' us zs []:=fun h=>h.frame (by simp)
     have cut: ∀o n,Rd w ((cs.drop o).take n) (((zaB xs).drop o).take n) []:=fun o n=>by
      obtain⟨gg,k1,k2⟩:=p3.piece o n
      have:gg= []:=List.eq_nil_iff_forall_not_mem.2 fun b hb=>by simpa using k1 b hb
      rw [this]at k2;exact k2
     obtain⟨t1,t2⟩:=zAN p1 (i:=i.toNat) (by omega)
     have hmul:=Nat.mul_le_mul_right K (show i.toNat≤xs.length by omega)
     have hrd:Rd w' (cs.take (i.toNat*K)++cv++cs.drop (i.toNat*K)) (zaB (xs.take i.toNat++ys++xs.drop i.toNat)) []:=by
      rw [zsN,zsN,t1,t2]
      have c1:=cut 0 (i.toNat*K)
      have c2:=cut (i.toNat*K) (cs.length-i.toNat*K)
      rw [List.drop_zero,List.drop_zero]at c1
      rw [List.take_of_length_le (by simp),List.take_of_length_le (by rw [List.length_drop,zjk _ p1,p2];exact Nat.le_refl _)]at c2
      exact(((hfr c1).app (hfr q3)).app (hfr c2))
     have hlen:(xs.take i.toNat++ys++xs.drop i.toNat).length=xs.length+ys.length:=by
      simp only [yqla,List.length_take,List.length_drop];omega
     have hown:zc2 w' el K (.slice (some ⟨g,0,none⟩) (xs.length+ys.length) cap) (.sl (xs.take i.toNat++ys++xs.drop i.toNat)) [g] []:=by
      refine⟨_,rfl,fun y hy=> ?_,p0, .inr ⟨g,cap,C,by rw [hlen],by rw [hlen];exact z1,z2,z3,z4,rfl, ?_, ?_⟩⟩
      ·rcases yqma.1 hy with hy|hy
       ·rcases yqma.1 hy with hy|hy
        ·exact p1 y (List.mem_of_mem_take hy)
        ·exact q1 y hy
       ·exact p1 y (List.mem_of_mem_drop hy)
      ·rw [hlen,←z5]
       intro u hu
       rcases yqma.1 hu with hu|hu
       ·rcases yqma.1 hu with hu|hu
        ·exact p4 u (List.mem_of_mem_take hu)
        ·exact q4 u hu
       ·exact p4 u (List.mem_of_mem_drop hu)
      ·rw [hlen,←z5];exact hrd
     refine⟨_,rfl,⟨⟨_, [], [], [g], [], [],rfl, ?_, ?_,by simp, ?_,by simp⟩,hmod.weaken fun b hb=> .inl (by simp [hb])⟩⟩
     ·rw [g5]
      show ztn Tryz.prog w' t s.res _ _ [] [g]
      unfold ztn
      rw [hr,if_pos g12]
      refine⟨[.slice (some ⟨g,0,none⟩) (xs.length+ys.length) cap], [.sl (xs.take i.toNat++ys++xs.drop i.toNat)],by rw [g7];simp, ?_⟩
      rw [g8]
      have:=zb0.own (P:=Tryz.prog) (t:=t) (ts:= []) (fl:= [true]) (us:= []) (ys:= []) (rf:= []) (hs:= []) rfl g9 (.inl ⟨g10,rfl⟩) (by rw [g11];exact hown) .nil
      simpa using this
     ·rw [g4,hft,List.append_nil,hm]
      exact .va rfl (.ro rfl (.va rfl .nil))
     ·intro b hb
      simp only [List.append_nil,List.mem_singleton]at hb
      subst hb
      exact⟨by rcases hgo with h|h;exact .inl (by simp [h]);exact .inr h,zbH z3⟩
 ·cases hk
noncomputable def zrB {α:Type} (xs:List α) (i:Int) (ys:List α):Option (List α):=req (0≤i∧i≤xs.length∧0<ys.length∧(xs.length+ys.length)*1000≤140737488355328) (some (xs.take i.toNat++ys++xs.drop i.toNat))
theorem zHd {f t it el K:Nat} (hk:zI6 Tryz.prog sgs f t it el K=true) (hfl: ∀r,zHb Tryz.prog sgs f r=true) (hins:zGY Tryz.prog f el K) {α:Type} {av:α→AV} {xs ys r:List α} {i:Int} (h:zrB xs i ys=some r):
  Rts Tryz.prog sgs f [.sl (xs.map av), .int .i64 i, .sl (ys.map av)] (.sl (r.map av)):=by
 obtain⟨⟨h0,h1,h2,h3⟩,h⟩:=zxK h
 cases h
 have:=zHf hk hfl hins (xs.map av) (ys.map av) i h0 (by simpa using h1) (by cases ys with|nil=>simp at h2|cons=>simp) (by simpa using h3)
 simpa [List.map_append,List.map_take,List.map_drop]using this
theorem zrT: ∃i z,Tryz.prog.info? 152=some i∧i.size=3∧i.zero=some z∧z.cells.size=3∧i.bytes≤1000:=by
 have h:(match Tryz.prog.info? 152 with|some i=>(match i.zero with|some z=>i.size==3&&z.cells.size==3&&decide (i.bytes≤1000)|none=>false)|none=>false)=true:=by kernel_rfl
 split at h
 ·rename_i i hi
  split at h
  ·rename_i z hz
   simp only [yqba,beq_iff_eq,decide_eq_true_eq]at h
   exact⟨i,z,hi,h.1.1,hz,h.1.2,h.2⟩
  ·cases h
 ·cases h
set_option maxHeartbeats 4000000 in
theorem zwd (w:World) (v:Value) (n:Nat) (cs:List Value) (own:List Nat) (hcl:cs.length=n*3) (hrow:(n=0∧ ∃q,v= .slice q 0 0)∨ ∃g cap C,v= .slice (some ⟨g,0,none⟩) n cap∧zym w 152 3 g cap C n cs∧g∈own)
  (vb vc m:Nat) (VC:Array Value) (vs:List Value) (hv:zym w 152 3 vb vc VC m vs) (hm:0<m) (hb:(n+m)*1000≤140737488355328) (h1v: ∀u∈vs,u.oneCell'=true):
  Calls Tryz.prog 329 #[v, .int .i64 n, .slice (some ⟨vb,0,none⟩) m vc] w fun e w'=> ∃u,e= .returned u∧zGQ w w' 152 3 own u (n+m) (cs++vs):=by
 obtain⟨i0,z0,hi,hs,hz,hzs,hby⟩:=zrT
 have hz1: ¬((m:Int)=0):=by omega
 have hsrc:Src w i0.size (some ⟨vb,0,none⟩) m vs:= .inr ⟨_,rfl,by rw [hs];exact hv.len,fun j u hj=>hv.cell 0 j u (by simpa using hj),h1v⟩
 obtain⟨v',w1,hr,hres⟩:=zyv (P:=Tryz.prog) w 34 34 152 i0 z0 Tryz.underlying34 hi hz (by rw [hzs,hs]) (by omega) (fun b=>b∈own) v n cs (by rw [hs];exact hcl)
  (by
   rcases hrow with h|⟨g,cap,C,rfl,⟨h1,h2,h3,h4,h5⟩,h6⟩
   ·exact .inl h
   ·exact .inr ⟨g,cap,C,rfl,h1,h2,h3,by rw [hs];exact h4,by rw [hs];exact h5,h6⟩)
  (some ⟨vb,0,none⟩) m vc vs hsrc (by simp only [maxLen];omega) (by
   have:=Nat.mul_le_mul_left (n+m) hby
   omega)
 have fin:zGQ w w1 152 3 own v' (n+m) (cs++vs):=by
  rcases hres with⟨_,_,h⟩|⟨g,cap,C,rfl,h1,h2,h3,h4,h5,h6,h7⟩
  ·omega
  ·refine⟨g,cap,C,rfl,⟨h1,h2,h3,by rw [hs]at h4;exact h4,by rw [hs]at h5;exact h5.symm⟩, ?_,h7.symm.imp id fun h=>by omega⟩
   refine⟨h6.os,h6.tape,h6.output,h6.size,fun b hb hn=>h6.block b hb fun e=> ?_⟩
   cases e
   rcases h7 with h7|h7
   ·omega
   ·exact hn h7
 clear hres
 rcases hrow with⟨rfl,q,rfl⟩|⟨g,cap,C,rfl,_,_⟩
 ·cases q with
  |none=>
   go_enter Tryz.func329,Tryz.ntmps329
   go_wp2_with (at_builtin;refine Lib.wpList_append_run _ rfl _ _ _ _ rfl _ _ rfl rfl _ _ hr ?_)
   all_goals (go_ret;exact⟨_,rfl,fin⟩)
  |some q=>
   obtain⟨qb,qo,qs⟩:=q
   go_enter Tryz.func329,Tryz.ntmps329
   go_wp2_with (at_builtin;refine Lib.wpList_append_run _ rfl _ _ _ _ rfl _ _ rfl rfl _ _ hr ?_)
   all_goals (go_ret;exact⟨_,rfl,fin⟩)
 ·go_enter Tryz.func329,Tryz.ntmps329
  go_wp2_with (at_builtin;refine Lib.wpList_append_run _ rfl _ _ _ _ rfl _ _ rfl rfl _ _ hr ?_)
  all_goals (go_ret;exact⟨_,rfl,fin⟩)
set_option maxHeartbeats 4000000 in
theorem zum (w:World) (n i g cap:Nat) (C:Array Value) (cs:List Value) (own:List Nat) (vb vc m:Nat) (hrow:zym w 152 3 g cap C n cs) (hin:i<n) (hroom:cap<n+m)
  (VC:Array Value) (vs:List Value) (hv:zym w 152 3 vb vc VC m vs) (hm:0<m) (hb:(n+m)*1000≤140737488355328) (h1v: ∀u∈vs,u.oneCell'=true) (h1c: ∀u∈cs,u.oneCell'=true):
  Calls Tryz.prog 329 #[.slice (some ⟨g,0,none⟩) n cap, .int .i64 i, .slice (some ⟨vb,0,none⟩) m vc] w fun e w'=> ∃u,e= .returned u∧zGQ w w' 152 3 own u (n+m) (cs.take (i*3)++vs++cs.drop (i*3)):=by
 obtain⟨i0,z0,hi,hs,hz,hzs,hby⟩:=zrT
 have hcl:=hrow.len
 have hvl:=hv.len
 have hcc:=hrow
 obtain⟨hnc,hcm,hg,hCs,hcs⟩:=hcc
 have hgw:g<w.heap.size:=zbH hg
 have hvw:vb<w.heap.size:=zbH hv.2.2.1
 have hsz:(Tryz.prog.info? 152).map (·.size)=some 3:=by rw [hi];simp [hs]
 have hik:i+(n+m-i)=n+m:=by omega
 have hbb:(n+m)*i0.bytes≤140737488355328:=Nat.le_trans (Nat.mul_le_mul_left _ hby) hb
 have hbk:(n+m-i)*i0.bytes≤140737488355328:=Nat.le_trans (Nat.mul_le_mul_right _ (by omega)) hbb
 have hold:(Builtin.firstCells i0.size i (.slice (some ⟨g,0,none⟩) i cap)).run Tryz.prog w.drew= .ok (cs.take (i*3)).toArray w.drew:=by
  rw [hs]
  exact run_firstCells_some w.drew 3 i ⟨g,0,none⟩ i cap (cs.take (i*3)) (by rw [List.length_take];omega) (fun j v hj=>by
   rw [List.getElem?_take]at hj
   split at hj
   ·exact hrow.cell 0 j v (by simpa using hj)
   ·cases hj)
 have hrz: ∀ty,(Builtin.append_ #[34,3] ty #[.slice (some ⟨g,0,none⟩) i cap, .int .i64 ((n:Int)+(m:Int)-(i:Int))]).run Tryz.prog w=
   .ok (.slice (some ⟨w.heap.size,0,none⟩) (n+m) (grownCap w (n+m) cap 152)) (w.drew.alloc (.cells ((cs.take (i*3)).toArray++Builtin.zeroCells z0.cells (n+m-i)++Builtin.zeroCells z0.cells (grownCap w (n+m) cap 152-(n+m))) 152)):=fun ty=>by
  have h:=Lib.run_append_grow_zeros w 34 3 ty 152 i0 z0 .i64 .i64 Tryz.underlying34 Tryz.underlying3 hi hz (some ⟨g,0,none⟩) i cap (cs.take (i*3)) hold (n+m-i) (by omega) (by omega) (by omega) (by omega) (by omega) (by rw [hik];exact growslice_fits hroom hbb)
  rw [hik]at h
  rw [show(n:Int)+(m:Int)-(i:Int)=((n+m-i:Nat):Int) by omega]
  exact h
 obtain⟨G,hG⟩: ∃G,G=grownCap w (n+m) cap 152:=⟨_,rfl⟩
 obtain⟨ROW,hROW⟩: ∃ROW:Array Value,ROW=(cs.take (i*3)).toArray++Builtin.zeroCells z0.cells (n+m-i)++Builtin.zeroCells z0.cells (G-(n+m)):=⟨_,rfl⟩
 have hGn:n+m≤G:=by rw [hG];exact grownCap_ge w _ _ _
 have hG63:G≤maxLen:=by rw [hG];exact grownCap_le_maxLen w (n+m) cap 152 (by unfold maxLen;omega)
 have hG64:G≤9223372036854775807:=hG63
 rw [←hG]at hrz
 rw [←hROW]at hrz
 have hRs:ROW.size=G*3:=by
  rw [hROW]
  simp only [Array.size_append,List.size_toArray,List.length_take,size_zeroCells,hzs]
  omega
 obtain⟨ROW2,hR2⟩: ∃R:Array Value,R=(ROW.toList.take (i*3)++vs++ROW.toList.drop (i*3+vs.length)).toArray:=⟨_,rfl⟩
 obtain⟨ROW3,hR3⟩: ∃R:Array Value,R=(ROW2.toList.take ((i+m)*3)++cs.drop (i*3)++ROW2.toList.drop ((i+m)*3+(cs.drop (i*3)).length)).toArray:=⟨_,rfl⟩
 have hR2s:ROW2.size=G*3:=by
  rw [hR2]
  simp only [List.size_toArray,yqla,List.length_take,List.length_drop,Array.length_toList]
  omega
 have hR3s:ROW3.size=G*3:=by
  rw [hR3]
  simp only [List.size_toArray,yqla,List.length_take,List.length_drop,Array.length_toList]
  omega
 obtain⟨N,hN⟩: ∃N,N=w.heap.size:=⟨_,rfl⟩
 have hA:(w.alloc (.cells ROW 152)).heap[N]?=some (.cells ROW 152 (0,0)):=by rw [hN];exact heap_alloc_new w _
 have hO: ∀k,k<N→(w.alloc (.cells ROW 152)).heap[k]?=w.heap[k]?:=fun k hk=>Below.heap_alloc w _ k (by omega)
 have hcpA: ∀(W:World),W.heap=(w.alloc (.cells ROW 152)).heap→ ∀ty dc,(Builtin.copy_ #[34,34] ty #[.slice (some ⟨N,i*3,none⟩) (n+m-i) dc, .slice (some ⟨vb,0,none⟩) m vc]).run Tryz.prog W= .ok (goInt m) (W.setRow N ROW2):=fun W hW ty dc=>by
  have h:=zjN (P:=Tryz.prog) W 34 34 ty 152 3 N (i*3) (n+m-i) dc ⟨vb,0,none⟩ m vc ROW 152 vs Tryz.underlying34 hsz (by rw [hW];exact hA) (by rw [hvl,show Nat.min m (n+m-i)=m from Nat.min_eq_left (by omega)])
   (fun j v hj=>by
    rw [World.cell?_of_block (w:=w) (by rw [Addr.add_lit,hW];exact hO vb (by omega))]
    exact hv.cell 0 j v (by simpa using hj)) (by rw [hRs,hvl];omega) h1v
  rw [show Nat.min m (n+m-i)=m from Nat.min_eq_left (by omega),←hR2]at h
  exact h
 have hB:((w.alloc (.cells ROW 152)).setRow N ROW2).heap[N]?=some (.cells ROW2 152 (0,0)):=setRow_heap _ _ _ _ _ _ hA
 have hO2: ∀k,k<N→((w.alloc (.cells ROW 152)).setRow N ROW2).heap[k]?=w.heap[k]?:=fun k hk=>by rw [setRow_other _ _ _ _ (by omega)];exact hO k hk
 have hcpB: ∀(W:World),W.heap=((w.alloc (.cells ROW 152)).setRow N ROW2).heap→ ∀ty dc sc,(Builtin.copy_ #[34,34] ty #[.slice (some ⟨N,(i+m)*3,none⟩) (n+m-(i+m)) dc, .slice (some ⟨g,i*3,none⟩) (n-i) sc]).run Tryz.prog W= .ok (goInt ((n-i:Nat):Int)) (W.setRow N ROW3):=fun W hW ty dc sc=>by
  have h:=zjN (P:=Tryz.prog) W 34 34 ty 152 3 N ((i+m)*3) (n+m-(i+m)) dc ⟨g,i*3,none⟩ (n-i) sc ROW2 152 (cs.drop (i*3)) Tryz.underlying34 hsz (by rw [hW];exact hB) (by rw [List.length_drop,hcl,show Nat.min (n-i) (n+m-(i+m))=n-i from Nat.min_eq_left (by omega)];omega)
   (fun j v hj=>by
    rw [World.cell?_of_block (w:=w) (by rw [Addr.add_lit,hW];exact hO2 g (by omega))]
    exact hrow.cell (i*3) j v hj) (by rw [hR2s,List.length_drop,hcl];omega) (fun v hv=>h1c v (List.mem_of_mem_drop hv))
  rw [show Nat.min (n-i) (n+m-(i+m))=n-i from Nat.min_eq_left (by omega),←hR3]at h
  exact h
 have fin: ∀W:World,W.os=w.os→W.tape=w.tape→W.output=w.output→W.heap=(((w.alloc (.cells ROW 152)).setRow N ROW2).setRow N ROW3).heap→zGQ w W 152 3 own (.slice (some ⟨N,0,none⟩) (n+m) G) (n+m) (cs.take (i*3)++vs++cs.drop (i*3)):=fun W w1 w2 w3 hW=>by
  refine⟨N,G,ROW3,rfl,⟨hGn,hG63,by rw [hW];exact setRow_heap _ _ _ _ _ _ hB,hR3s, ?_⟩,⟨w1,w2,w3,by rw [hW];simp,fun k hk _=>by rw [hW,setRow_other _ _ _ _ (by omega)];exact hO2 k (by omega)⟩, .inr (by omega)⟩
  have h:=two ((Builtin.zeroCells z0.cells (n+m-i)).toList++(Builtin.zeroCells z0.cells (G-(n+m))).toList) cs vs (i*3) (m*3) (n*3) ROW.toList (by rw [hROW];simp) hcl (Nat.mul_le_mul_right _ (by omega)) hvl (by simp only [yqla,Array.length_toList,size_zeroCells,hzs];omega)
  rw [hR3,hR2,Nat.add_mul n m,Nat.add_mul i m]
  exact h.symm
 have hz1: ¬((m:Int)=0):=by omega
 have hz2: ¬((i:Int)=(n:Int)):=by omega
 have hz3:(cap:Int)<(n:Int)+(m:Int):=by omega
 have hGi: ¬(G=i):=by omega
 have hGim: ¬(G=i+m):=by omega
 have hci: ¬(cap=i):=by omega
 have hw1:IntKind.i64.wrap ((i:Int)+(m:Int))=(i:Int)+(m:Int):=by rw [IntKind.wrap_i64];omega
 have hb1:(0:Int)≤(i:Int)+(m:Int):=by omega
 have hin':i≤n:=by omega
 have htn:((i:Int)+(m:Int)).toNat=i+m:=by omega
 have hb3:(i:Int)≤(n:Int):=by omega
 have hE1:((w.alloc (.cells ROW 152)).drew).heap=(w.alloc (.cells ROW 152)).heap:=rfl
 have hF1:(((w.alloc (.cells ROW 152)).drew.setRow N ROW2).drew).heap=((w.alloc (.cells ROW 152)).setRow N ROW2).heap:=rfl
 subst hN
 clear hold hik hROW hG hR2 hR3 hA hO hB hO2 hcs
 go_enter Tryz.func329,Tryz.ntmps329
 go_wp2_with (first
  |(at_builtin;refine Lib.wpList_append_run _ rfl _ _ _ _ rfl _ _ rfl rfl _ _ (hrz _) ?_)
  |(at_builtin;refine zl6 _ rfl _ _ 34 34 rfl _ _ rfl rfl (hcpA _ hE1 _ _) ?_)
  |(at_builtin;refine zl6 _ rfl _ _ 34 34 rfl _ _ rfl rfl (hcpB _ rfl _ _ _) ?_))
 go_region_law (refine zty rfl _ _ 34 34 rfl (.slice (some ⟨w.heap.size,(i+m)*3,none⟩) (n+m-(i+m)) (G-(i+m))) (.slice (some ⟨g,i*3,none⟩) (n-i) (cap-i)) (by simp [Act.eval,Act.put]) (by simp [Act.eval,Act.put]) (hcpB _ hF1 3 (G-(i+m)) (cap-i)) ?_)
 go_wp2
 go_ret
 exact⟨_,rfl,fin _ rfl rfl rfl rfl⟩
set_option maxHeartbeats 4000000 in
theorem zrK (w:World) (n i g cap:Nat) (C:Array Value) (cs:List Value) (own:List Nat) (vb vc m:Nat) (hrow:zym w 152 3 g cap C n cs) (hgo:g∈own) (hin:i<n) (hroom:n+m≤cap) (hvb:vb≠g)
  (VC:Array Value) (vs:List Value) (hv:zym w 152 3 vb vc VC m vs) (hm:0<m) (hb:(n+m)*1000≤140737488355328) (h1v: ∀u∈vs,u.oneCell'=true) (h1c: ∀u∈cs,u.oneCell'=true):
  Calls Tryz.prog 329 #[.slice (some ⟨g,0,none⟩) n cap, .int .i64 i, .slice (some ⟨vb,0,none⟩) m vc] w fun e w'=> ∃u,e= .returned u∧zGQ w w' 152 3 own u (n+m) (cs.take (i*3)++vs++cs.drop (i*3)):=by
 obtain⟨i0,z0,hi,hs,hz,hzs,hby⟩:=zrT
 have hcl:=hrow.len
 have hvl:=hv.len
 have hcc:=hrow
 obtain⟨hnc,hcm,hg,hCs,hcs⟩:=hcc
 have hgw:g<w.heap.size:=zbH hg
 have hsz:(Tryz.prog.info? 152).map (·.size)=some 3:=by rw [hi];simp [hs]
 have hc64:cap≤9223372036854775807:=hcm
 have hwn:=hv.2.2.1
 have hov: ∀lb cb,(callFunc 356 #[.slice (some ⟨vb,0,none⟩) m vc, .slice (some ⟨g,(i+m)*3,none⟩) lb cb]).run Tryz.prog w= .ok (.value (.bool false)) w:=fun lb cb=>by
  rw [run_callFunc_extern Tryz.func356 (by kernel_rfl) (by kernel_rfl) (by kernel_rfl) (e:=Extern.SlicesOverlaps.overlaps #[34,34] #[4]) (by kernel_rfl),
   Lib.run_overlaps_apart w 34 4 152 Tryz.underlying34 3 (fun w=>by simp [Go.sizeOf,typeInfo,hi,hs]) ⟨vb,0,none⟩ ⟨g,(i+m)*3,none⟩ m vc lb cb hvb 152 152 VC.size C.size (by simp [World.shape?,hwn]) (by simp [World.shape?,hg]) (by omega) (by simp [World.frozen?,hwn]) (by simp [World.frozen?,hwn])]
  rfl
 obtain⟨C1,hC1⟩: ∃R:Array Value,R=(C.toList.take ((i+m)*3)++cs.drop (i*3)++C.toList.drop ((i+m)*3+(cs.drop (i*3)).length)).toArray:=⟨_,rfl⟩
 obtain⟨C2,hC2⟩: ∃R:Array Value,R=(C1.toList.take (i*3)++vs++C1.toList.drop (i*3+vs.length)).toArray:=⟨_,rfl⟩
 have hC1s:C1.size=cap*3:=by
  rw [hC1]
  simp only [List.size_toArray,yqla,List.length_take,List.length_drop,Array.length_toList]
  omega
 have hC2s:C2.size=cap*3:=by
  rw [hC2]
  simp only [List.size_toArray,yqla,List.length_take,List.length_drop,Array.length_toList]
  omega
 have hcp1: ∀(W:World),W.heap=w.heap→ ∀ty dc sc,(Builtin.copy_ #[34,34] ty #[.slice (some ⟨g,(i+m)*3,none⟩) (n+m-(i+m)) dc, .slice (some ⟨g,i*3,none⟩) (n+m-i) sc]).run Tryz.prog W= .ok (goInt ((n-i:Nat):Int)) (W.setRow g C1):=fun W hW ty dc sc=>by
  have h:=zjN (P:=Tryz.prog) W 34 34 ty 152 3 g ((i+m)*3) (n+m-(i+m)) dc ⟨g,i*3,none⟩ (n+m-i) sc C 152 (cs.drop (i*3)) Tryz.underlying34 hsz (by rw [hW];exact hg) (by rw [List.length_drop,hcl,show Nat.min (n+m-i) (n+m-(i+m))=n-i from by rw [show Nat.min (n+m-i) (n+m-(i+m))=n+m-(i+m)from Nat.min_eq_right (by omega)];omega];omega)
   (fun j v hj=>by
    rw [World.cell?_of_block (w:=w) (by rw [hW])]
    exact hrow.cell (i*3) j v hj) (by rw [hCs,List.length_drop,hcl];omega) (fun v hv=>h1c v (List.mem_of_mem_drop hv))
  rw [show Nat.min (n+m-i) (n+m-(i+m))=n-i from by rw [show Nat.min (n+m-i) (n+m-(i+m))=n+m-(i+m)from Nat.min_eq_right (by omega)];omega,←hC1]at h
  exact h
 have hB:(w.setRow g C1).heap[g]?=some (.cells C1 152 (0,0)):=setRow_heap _ _ _ _ _ _ hg
 have hcp2: ∀(W:World),W.heap=(w.setRow g C1).heap→ ∀ty dc,(Builtin.copy_ #[34,34] ty #[.slice (some ⟨g,i*3,none⟩) (n+m-i) dc, .slice (some ⟨vb,0,none⟩) m vc]).run Tryz.prog W= .ok (goInt m) (W.setRow g C2):=fun W hW ty dc=>by
  have h:=zjN (P:=Tryz.prog) W 34 34 ty 152 3 g (i*3) (n+m-i) dc ⟨vb,0,none⟩ m vc C1 152 vs Tryz.underlying34 hsz (by rw [hW];exact hB) (by rw [hvl,show Nat.min m (n+m-i)=m from Nat.min_eq_left (by omega)])
   (fun j v hj=>by
    rw [World.cell?_of_block (w:=w) (by rw [Addr.add_lit,hW];exact setRow_other _ _ _ _ (by simpa using hvb))]
    exact hv.cell 0 j v (by simpa using hj)) (by rw [hC1s,hvl];omega) h1v
  rw [show Nat.min m (n+m-i)=m from Nat.min_eq_left (by omega),←hC2]at h
  exact h
 have fin: ∀W:World,W.os=w.os→W.tape=w.tape→W.output=w.output→W.heap=((w.setRow g C1).setRow g C2).heap→zGQ w W 152 3 own (.slice (some ⟨g,0,none⟩) (n+m) cap) (n+m) (cs.take (i*3)++vs++cs.drop (i*3)):=fun W w1 w2 w3 hW=>by
  refine⟨g,cap,C2,rfl,⟨hroom,hcm,by rw [hW];exact setRow_heap _ _ _ _ _ _ hB,hC2s, ?_⟩,⟨w1,w2,w3,by rw [hW];simp,fun k hk hn=>by rw [hW,setRow_other _ _ _ _ (fun e=>hn (by first|(rw [e];exact hgo)|(rw [←e];exact hgo))),setRow_other _ _ _ _ (fun e=>hn (by first|(rw [e];exact hgo)|(rw [←e];exact hgo)))]⟩, .inl hgo⟩
  have h:=zIY C.toList cs vs (i*3) (m*3) (n*3) hcs (Nat.mul_le_mul_right _ (by omega)) hvl (by rw [Array.length_toList,hCs];omega)
  rw [hC2,hC1,Nat.add_mul n m,Nat.add_mul i m]
  exact h.symm
 have hz1: ¬((m:Int)=0):=by omega
 have hz2: ¬((i:Int)=(n:Int)):=by omega
 have hz3: ¬((cap:Int)<(n:Int)+(m:Int)):=by omega
 have hci: ¬(cap=i):=by omega
 have hcim: ¬(cap=i+m):=by omega
 have hw1:IntKind.i64.wrap ((i:Int)+(m:Int))=(i:Int)+(m:Int):=by rw [IntKind.wrap_i64];omega
 have hb1:(0:Int)≤(i:Int)+(m:Int):=by omega
 have hin':i≤n:=by omega
 have htn:((i:Int)+(m:Int)).toNat=i+m:=by omega
 have hb3:(i:Int)≤(n:Int):=by omega
 have hb4:(i:Int)≤(n:Int)+(m:Int):=by omega
 have hF1:(w.drew).heap=w.heap:=rfl
 have hF2:(w.drew.setRow g C1).heap=(w.setRow g C1).heap:=rfl
 clear hC1 hC2 hB hcs hwn hg
 go_enter Tryz.func329,Tryz.ntmps329
 go_wp2_with (simp only [hov])
 go_region_law (refine zty rfl _ _ 34 34 rfl (.slice (some ⟨g,(i+m)*3,none⟩) (n+m-(i+m)) (cap-(i+m))) (.slice (some ⟨g,i*3,none⟩) (n+m-i) (cap-i)) (by simp [Act.eval,Act.put]) (by simp [Act.eval,Act.put]) (hcp1 _ hF1 3 (cap-(i+m)) (cap-i)) ?_)
 go_wp2_with (at_builtin;refine zl6 _ rfl _ _ 34 34 rfl _ _ rfl rfl (hcp2 _ hF2 _ _) ?_)
 go_ret
 exact⟨_,rfl,fin _ rfl rfl rfl rfl⟩
theorem zDJ:zGY Tryz.prog 329 152 3:=by
 intro w v n i cs own vb vc m VC vs hcl hrow hin hv hvb hm hb h1v h1c
 by_cases he:i=n
 ·subst he
  refine(zwd w v i cs own hcl hrow vb vc m VC vs hv hm hb h1v).mono ?_
  rintro e w' ⟨u,rfl,h⟩
  refine⟨u,rfl, ?_⟩
  rw [List.take_of_length_le (by omega),List.drop_eq_nil_of_le (by omega),List.append_nil]
  exact h
 ·rcases hrow with⟨rfl,_⟩|⟨g,cap,C,rfl,hr,hg⟩
  ·omega
  ·by_cases hc:n+m≤cap
   ·exact zrK w n i g cap C cs own vb vc m hr hg (by omega) hc (hvb g hg) VC vs hv hm hb h1v h1c
   ·exact zum w n i g cap C cs own vb vc m hr (by omega) (by omega) VC vs hv hm hb h1v h1c
end Go.Proofs.YtgobcjbjogkpjaaGreatDoor
end
section
namespace Go.Proofs.YtgobcjbjogkpjaaGreatDoor
open Go Go.Proofs Go.Shelf Go.Sort Go.RowKit
set_option maxRecDepth 100000
set_option maxHeartbeats 1000000
def zJs (P:Program) (sg:SgT) (f np:Nat) (r:AV):Bool:=
 match P.funcs[f]?,sg f with
 |some fn,some s=>fn.body.isSome&& !(fn.name== "runtime.NumGoroutine")&&zmF P fn s r&&s.cq.all (fun m=>match m with| .ro=>true|_=>false)&&fn.params.size==np&&fn.nfree==0&&(s.ft.isEmpty&&s.lo.isEmpty)&&(match fn.resultTypes.toList with| [t,u]=> !znI P t s.res&& !znI P u (s.res.drop (zau P t).length)|_=>false)
 |_,_=>false
theorem zFr {f:Nat} {xs:List AV} {y1 y2:AV} (hk:zJs Tryz.prog sgs f xs.length (.tup [y1,y2])=true) (hc: ∀(w:World) (vs:List Value) (rf:List Nat),pkW.n≤w.heap.size→pkW.K w→Rd w vs xs rf→Calls Tryz.prog f vs.toArray w fun e w'=>Mod [] w w'∧ ∃v1 v2 f1 f2,e= .returned (.tuple #[v1,v2])∧Rd w' [v1] [y1] f1∧Rd w' [v2] [y2] f2∧ ∀b∈f1++f2,b∈rf∨w.heap.size≤b):Rts Tryz.prog sgs f xs (.tup [y1,y2]):=by
 unfold zJs at hk
 split at hk
 ·rename_i fn s hf hs
  simp only [yqba,Bool.not_eq_true',beq_iff_eq,yqal]at hk
  obtain⟨⟨⟨⟨⟨⟨⟨h1,h2⟩,h3⟩,h4⟩,h5⟩,h6⟩,hft⟩,h7⟩:=hk
  obtain⟨hft,hlo⟩:s.ft= []∧s.lo= []:=by simpa using hft
  have hro: ∀m∈s.cq,m= .ro:=fun m hm=>by
   have:=h4 m hm
   split at this
   ·rfl
   ·cases this
  unfold Rts
  rw [if_pos (zuV f s hs)]
  refine⟨s,hs,fn,hf,h1,h2,h3,by omega,by simp [hft],fun w vs rf lf hs' hargs hd _ hnd hpk=> ?_⟩
  obtain⟨hr,rfl⟩:=hargs.rd hlo hro
  refine(hc w vs rf hpk.1 hpk.2.1 hr).mono ?_
  rintro e w' ⟨hm,v1,v2,f1,f2,rfl,hv1,hv2,hb⟩
  refine⟨_,rfl,⟨⟨.tup [y1,y2], [],f1++f2, [], [], [],rfl, ?_,zeU.jz ?_ hro,by simp,by simp,fun b hb'=>⟨by simp, ?_⟩⟩,hm⟩⟩
  ·split at h7
   ·rename_i t u ht
    simp only [yqba,Bool.not_eq_true']at h7
    rw [ht]
    refine⟨[v1,v2], [y1,y2],rfl,rfl, ?_⟩
    have a1:ztn Tryz.prog w' t s.res v1 y1 f1 []:=by
     unfold ztn
     rw [if_neg (by rw [h7.1];simp)]
     exact⟨hv1,rfl⟩
    have a2:ztn Tryz.prog w' u (s.res.drop (zau Tryz.prog t).length) v2 y2 f2 []:=by
     unfold ztn
     rw [if_neg (by rw [h7.2];simp)]
     exact⟨hv2,rfl⟩
    have:=zq3.cons a1 (zq3.cons a2 (zq3.nil (P:=Tryz.prog) (w:=w') (fl:=(s.res.drop (zau Tryz.prog t).length).drop (zau Tryz.prog u).length)))
    simpa using this
   ·cases h7
  ·rw [hr.len];simp [hft];omega
  ·rcases hb b (by simpa using hb')with h|h
   ·exact .inl h
   ·exact .inr (.inr h)
 ·cases hk
def zk9 (n:Int):Option (List UInt8):=some (Lib.itoa n)
theorem zzR {w:World} (h:pkW.K w):Lib.TabIs Tryz.prog w "internal/strconv.uint64pow10" .u64 Lib.pow10Tab:=by
 obtain⟨_,_,k⟩:=h
 exact k.trans (by kernel_rfl)
theorem zEC (n:Int) (h0: -9223372036854775808≤n) (h1:n≤9223372036854775807):(Lib.itoa n).length≤9223372036854775807:=by
 have key: ∀(k u:Nat),u<10^k→(Lib.decDigits u).length≤k+1:=by
  intro k
  induction k with
  |zero=>
   intro u hu
   rw [Lib.decDigits,dif_pos (by omega)];simp
  |succ k ih=>
   intro u hu
   rw [Lib.decDigits]
   split
   ·simp
   ·rw [yqla,yqls]
    have:=ih (u/10) (by rw [Nat.pow_succ]at hu;omega)
    omega
 unfold Lib.itoa
 split
 ·rw [yqlc]
  have:=key 20 n.natAbs (by omega)
  omega
 ·have:=key 20 n.toNat (by omega)
  omega
theorem k64 {n:Int} (h:InK .i64 n): -9223372036854775808≤n∧n≤9223372036854775807:=by
 unfold InK at h
 rw [IntKind.wrap_i64]at h
 omega
theorem zz5 (w:World) (k:Nat) (os:Array Obj):Mod [] w (grow (w.drewN k) os):=by
 refine⟨rfl,rfl,rfl, ?_,fun b hb _=> ?_⟩
 ·show w.heap.size≤(w.heap++os).size
  rw [Array.size_append];omega
 ·show(w.heap++os)[b]?=w.heap[b]?
  rw [Array.getElem?_append_left hb]
theorem zul (a0:Int) (r:List UInt8) (h:zk9 a0=some r):Rts Tryz.prog sgs 327 [.int .i64 a0] (.str r):=zzu (by kernel_rfl) fun w vs rf hK hr=>by
 obtain⟨us,rfl,hn,hr⟩:=zxb hr
 obtain⟨rfl,rfl⟩:=zmf hr
 cases h
 refine(Tryz.strconv_Itoa a0 (k64 hn).1 (k64 hn).2 w (zzR hK)).mono ?_
 rintro e w' ⟨rfl,k,os,rfl⟩
 have hl:=zEC a0 (k64 hn).1 (k64 hn).2
 exact⟨zz5 w k os,_, [],rfl,by have:=Rd.str (w:=grow (w.drewN k) os) (s:=⟨(Lib.itoa a0).toArray⟩) (vs:= []) (xs:= []) (f:= []) (by show(Lib.itoa a0).toArray.size≤_;simpa using hl) .nil;simpa using this,by simp⟩
theorem zBB (w:World) (ty:TypeId) (t:ByteArray):Mod [] w (Lib.bytesWorld w ty t):=Mod.ek (Lib.bytesWorld_below w ty t) (Nat.le_refl _)
theorem zzo (a b c:Int) (w:World):Calls Tryz.prog 89 #[.int .i64 a, .int .i64 b, .int .i64 c] w fun e w'=>e= .returned (.bool (decide (a≥b)&&decide (a≤c)))∧w'=w:=by
 by_cases h1:a≥b
 ·go_enter Tryz.func89,Tryz.ntmps89
  go_wp2
  go_ret
  simp [h1]
 ·go_enter Tryz.func89,Tryz.ntmps89
  go_wp2
  go_ret
  simp
  intro h
  omega
def zw2 (s:List UInt8) (lo hi:Int):Int × Bool:=match Lib.atoiAll s with
 | .ok n=>if lo≤n∧n≤hi∧Lib.itoa n=s then(n,true)else(0,false)
 |_=>(0,false)
theorem zEq {s:ByteArray} {w:World} (hs:s.size≤281474976710656) (hK:pkW.K w) (h: ∀v,Lib.atoiAll s.data.toList≠ .ok v):
  Calls Tryz.prog 370 #[.string s] w fun e w'=> ∃v te N,e= .returned (.tuple #[.int .i64 v, .iface te (.pointer (some ⟨N,0,none⟩))])∧Mod [] w w':=by
 obtain⟨⟨t1,p1,k1⟩,⟨t2,p2,k2⟩,_⟩:=hK
 rcases hA:Lib.atoiAll s.data.toList with v|_|_
 ·exact absurd hA (h v)
 ·exact(Any.strconv_Atoi_syntax_var Tryz.gf s hs hA t1 p1 w k1).mono fun e w' ⟨N,he,_,_,hB⟩=>⟨_,_,_,he,Mod.ek hB (Nat.le_refl _)⟩
 ·exact(Any.strconv_Atoi_range_var Tryz.gf s hs hA t2 p2 w k2).mono fun e w' ⟨N,he,_,_,hB⟩=>⟨_,_,_,he,Mod.ek hB (Nat.le_refl _)⟩
theorem zCB {s:ByteArray} {lo hi:Int} {w:World} (hc:Calls Tryz.prog 370 #[.string s] w fun e w'=> ∃v te N,e= .returned (.tuple #[.int .i64 v, .iface te (.pointer (some ⟨N,0,none⟩))])∧Mod [] w w'):
  Calls Tryz.prog 351 #[.string s, .int .i64 lo, .int .i64 hi] w fun e w'=>e= .returned (.tuple #[.int .i64 0, .bool false])∧Mod [] w w':=by
 go_enter Tryz.func351,Tryz.ntmps351
 go_wp2_with (go_at_call 370;refine hc.mono ?_;rintro e w' ⟨v,te,N,rfl,hm⟩)
 go_ret2
 exact⟨rfl,hm⟩
section
variable (s:ByteArray) (n lo hi:Int) (w:World)
def zAL:Prop:=Calls Tryz.prog 370 #[.string s] w fun e w'=>e= .returned (.tuple #[.int .i64 n, .nilIface])∧Mod [] w w'
theorem zC7 (hA:zAL s n w) (hw: ∀W,Calls Tryz.prog 89 #[.int .i64 n, .int .i64 lo, .int .i64 hi] W fun e w'=>e= .returned (.bool false)∧w'=W):
  Calls Tryz.prog 351 #[.string s, .int .i64 lo, .int .i64 hi] w fun e w'=>e= .returned (.tuple #[.int .i64 0, .bool false])∧Mod [] w w':=by
 unfold zAL at hA
 go_enter Tryz.func351,Tryz.ntmps351
 go_wp2_with (first|(go_at_call 370;refine hA.mono ?_;rintro e W1 ⟨rfl,hm⟩)|(go_at_call 89;refine(hw _).mono ?_;rintro e W2 ⟨rfl,rfl⟩))
 go_ret2
 exact⟨rfl,hm⟩
theorem zBt (q:ByteArray) (hq:(q.toList==s.toList)=false) (hA:zAL s n w) (hw: ∀W,Calls Tryz.prog 89 #[.int .i64 n, .int .i64 lo, .int .i64 hi] W fun e w'=>e= .returned (.bool true)∧w'=W)
  (hI: ∀W1,Mod [] w W1→Calls Tryz.prog 327 #[.int .i64 n] W1 fun e w'=>e= .returned (.string q)∧Mod [] w w'):
  Calls Tryz.prog 351 #[.string s, .int .i64 lo, .int .i64 hi] w fun e w'=>e= .returned (.tuple #[.int .i64 0, .bool false])∧Mod [] w w':=by
 unfold zAL at hA
 go_enter Tryz.func351,Tryz.ntmps351
 go_wp2_with (first|(go_at_call 370;refine hA.mono ?_;rintro e W1 ⟨rfl,hm⟩)|(go_at_call 89;refine(hw _).mono ?_;rintro e W2 ⟨rfl,rfl⟩)|(go_at_call 327;refine(hI _ hm).mono ?_;rintro e W3 ⟨rfl,hm3⟩))
 go_ret2
 exact⟨rfl,hm3⟩
theorem zCA (hA:zAL s n w) (hw: ∀W,Calls Tryz.prog 89 #[.int .i64 n, .int .i64 lo, .int .i64 hi] W fun e w'=>e= .returned (.bool true)∧w'=W)
  (hI: ∀W1,Mod [] w W1→Calls Tryz.prog 327 #[.int .i64 n] W1 fun e w'=>e= .returned (.string s)∧Mod [] w w'):
  Calls Tryz.prog 351 #[.string s, .int .i64 lo, .int .i64 hi] w fun e w'=>e= .returned (.tuple #[.int .i64 n, .bool true])∧Mod [] w w':=by
 unfold zAL at hA
 go_enter Tryz.func351,Tryz.ntmps351
 go_wp2_with (first|(go_at_call 370;refine hA.mono ?_;rintro e W1 ⟨rfl,hm⟩)|(go_at_call 89;refine(hw _).mono ?_;rintro e W2 ⟨rfl,rfl⟩)|(go_at_call 327;refine(hI _ hm).mono ?_;rintro e W3 ⟨rfl,hm3⟩))
 go_ret2
 exact⟨rfl,hm3⟩
end
theorem zBS (s:ByteArray) (lo hi:Int) (w:World) (hs:s.size≤281474976710656) (hN:pkW.n≤w.heap.size) (hK:pkW.K w):Calls Tryz.prog 351 #[.string s, .int .i64 lo, .int .i64 hi] w fun e w'=>e= .returned (.tuple #[.int .i64 (zw2 s.data.toList lo hi).1, .bool (zw2 s.data.toList lo hi).2])∧Mod [] w w':=by
 by_cases hok: ∃n,Lib.atoiAll s.data.toList= .ok n
 ·obtain⟨n,hA⟩:=hok
  have hR:zw2 s.data.toList lo hi=if lo≤n∧n≤hi∧Lib.itoa n=s.data.toList then(n,true)else(0,false):=by
   unfold zw2
   rw [hA]
  rw [hR]
  obtain⟨b0,b1⟩:=Lib.atoiAll_bounds hA
  have hA':Calls Tryz.prog 370 #[.string s] w fun e w'=>e= .returned (.tuple #[.int .i64 n, .nilIface])∧Mod [] w w':=by
   refine(Tryz.strconv_Atoi_ok s (by omega) n hA w).mono ?_
   rintro e w' ⟨rfl,h|⟨t,h⟩⟩
   ·subst h;exact⟨rfl,Mod.refl _ _⟩
   ·subst h;exact⟨rfl,zBB w _ t⟩
  have hI: ∀W1,Mod [] w W1→Calls Tryz.prog 327 #[.int .i64 n] W1 fun e w'=>e= .returned (.string ⟨(Lib.itoa n).toArray⟩)∧Mod [] w w':=by
   intro W1 hm
   have hK1:pkW.K W1:=pkW.mono (fun b hb=>hm.block b (Nat.lt_of_lt_of_le hb hN) (by simp)) hK
   refine(Tryz.strconv_Itoa n b0 b1 W1 (zzR hK1)).mono ?_
   rintro e w' ⟨rfl,k,os,rfl⟩
   exact⟨rfl,hm.trans (zz5 W1 k os) (by simp)⟩
  by_cases h1:n≥lo∧n≤hi
  ·have hw: ∀W,Calls Tryz.prog 89 #[.int .i64 n, .int .i64 lo, .int .i64 hi] W fun e w'=>e= .returned (.bool true)∧w'=W:=fun W=>by
    have:=zzo n lo hi W
    rwa [show(decide (n≥lo)&&decide (n≤hi))=true by simp [h1.1,h1.2]]at this
   by_cases h3:Lib.itoa n=s.data.toList
   ·have hs3:(⟨(Lib.itoa n).toArray⟩:ByteArray)=s:=by rw [h3]
    rw [hs3]at hI
    simp only [if_pos (⟨h1.1,h1.2,h3⟩:lo≤n∧n≤hi∧Lib.itoa n=s.data.toList)]
    exact zCA s n lo hi w hA' hw hI
   ·have hs3:((⟨(Lib.itoa n).toArray⟩:ByteArray).toList==s.toList)=false:=by
     rw [zoT,beq_eq_false_iff_ne]
     exact h3
    simp only [if_neg (fun h:lo≤n∧n≤hi∧Lib.itoa n=s.data.toList=>h3 h.2.2)]
    exact zBt s n lo hi w _ hs3 hA' hw hI
  ·have hw: ∀W,Calls Tryz.prog 89 #[.int .i64 n, .int .i64 lo, .int .i64 hi] W fun e w'=>e= .returned (.bool false)∧w'=W:=fun W=>by
    have:=zzo n lo hi W
    rwa [show(decide (n≥lo)&&decide (n≤hi))=false by simp;omega]at this
   simp only [if_neg (fun h:lo≤n∧n≤hi∧Lib.itoa n=s.data.toList=>h1 ⟨h.1,h.2.1⟩)]
   exact zC7 s n lo hi w hA' hw
 ·have hR:zw2 s.data.toList lo hi=(0,false):=by
   unfold zw2
   split
   ·rename_i n hn;exact absurd ⟨n,hn⟩ hok
   ·rfl
  rw [hR]
  exact zCB (zEq hs hK fun v hv=>hok ⟨v,hv⟩)
noncomputable def ziQ (s:List UInt8) (lo hi:Int):Option (Int × Bool):=req (s.length≤281474976710656) (some (zw2 s lo hi))
theorem ztG (a0:List UInt8) (a1 a2:Int) (r:Int × Bool) (h:ziQ a0 a1 a2=some r):Rts Tryz.prog sgs 351 [.str a0, .int .i64 a1, .int .i64 a2] (.tup [.int .i64 r.1, .bool r.2]):=by
 obtain⟨hl,h⟩:=zxK h
 refine zFr (by kernel_rfl) fun w vs rf hN hK hr=> ?_
 obtain⟨s,us,rfl,hs,hz,hr⟩:=zpw hr
 obtain⟨us1,rfl,_,hr⟩:=zxb hr
 obtain⟨us2,rfl,_,hr⟩:=zxb hr
 obtain⟨rfl,rfl⟩:=zmf hr
 subst hs
 cases h
 refine(zBS s a1 a2 w (by simpa using hl) hN hK).mono ?_
 rintro e w' ⟨rfl,hm⟩
 refine⟨hm,_,_, [], [],rfl, .int ?_ .nil, .bool .nil,by simp⟩
 unfold zw2
 split
 ·rename_i n hn
  have:=Lib.atoiAll_bounds hn
  split
  ·exact zaI this.1 this.2
  ·exact zaI (by decide) (by decide)
 ·exact zaI (by decide) (by decide)
end Go.Proofs.YtgobcjbjogkpjaaGreatDoor
end

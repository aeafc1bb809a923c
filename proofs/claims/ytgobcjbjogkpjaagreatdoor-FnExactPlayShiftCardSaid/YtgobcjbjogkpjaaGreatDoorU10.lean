/- Parts of a proof, joined: N18, N19, N20, N21, N22, PK, NK, NP, NQ, NS, NT, NV, NU, NW, LK, NY, NZ, LQ, PL. -/
import Derived.Test.YtgobcjbjogkpjaaGreatDoorU9
import Derived.Lib.LaidTab
import Derived.LaidSub
section
namespace Go.Proofs.YtgobcjbjogkpjaaGreatDoor
open Go.RowKit
set_option maxRecDepth 100000
structure zF4 (t:zab):Prop where
 name:t.fName.length≤9223372036854775807
 cols:t.fCols.length≤9223372036854775807
 col: ∀c∈t.fCols,c.length≤9223372036854775807
 idxs:t.fIdxs.length≤9223372036854775807
 idx: ∀x∈t.fIdxs,x.fName.length≤9223372036854775807
end Go.Proofs.YtgobcjbjogkpjaaGreatDoor
end
section
namespace Go.Proofs.YtgobcjbjogkpjaaGreatDoor
open Go.RowKit
set_option maxRecDepth 100000
def zEM (st:List Int):Int:=if st.contains 3 then 2 else if st.contains 0 then 0 else 1
theorem zzu {xs:List Int} {k:Int} (h:xs.length≤2000000):zh0 xs k=some (xs.contains k):=by
 have key: ∀(n q:Nat),q+n=xs.length→zal (fun s:Int=>zd8 xs k s) (q:Int)=some ((xs.drop q).contains k):=by
  intro n
  induction n with
  |zero=>
   intro q hq
   have:q=xs.length:=by omega
   subst this
   rw [zbc]
   have e:zd8 xs k xs.length=some (.inr (some false)):=by
    unfold zd8
    rw [if_neg (by simp)]
   rw [e]
   simp
  |succ n ih=>
   intro q hq
   have hlt:q<xs.length:=by omega
   have ih2:=ih (q+1) (by omega)
   rw [zbc,List.drop_eq_getElem_cons hlt,List.contains_cons]
   have e:zd8 xs k q=some (if(xs[q]==k)=true then .inr (some true)else .inl ((q+1:Nat):Int)):=by
    unfold zd8
    rw [if_pos (by simpa using hlt),zac hlt,Option.bind_some,zaN hlt (by omega)]
    cases(xs[q]==k)<;>rfl
   rw [e]
   by_cases h1:(xs[q]==k)=true
   ·have h2:xs[q]=k:=by simpa using h1
    rw [if_pos h1];simp [h2]
   ·have h2:(k==xs[q])=false:=by
     rw [Bool.eq_false_iff];intro h3;exact h1 (by simp at h3 ⊢;omega)
    rw [if_neg h1,h2,Bool.false_or];exact ih2
 have:=key xs.length 0 (by omega)
 unfold zh0
 simpa using this
theorem zCS {s:zag} {st:List Int} (hn:st.length=s.fAt.length) (hl:st.length≤2000000) (hs: ∀(i:Nat) (hi:i<st.length),∃tb,zaF s i=some tb∧zbu s tb=some st[i]):zep s=some (zEM st):=by
 have key: ∀(n q:Nat) (v:Int),q+n=st.length→zal (fun x:Int × Int=>zbw s x.1 x.2) (v,(q:Int))=some (if(st.drop q).contains 3 then 2 else if(st.drop q).contains 0 then 0 else v):=by
  intro n
  induction n with
  |zero=>
   intro q v hq
   have:q=st.length:=by omega
   subst this
   have e:zbw s v st.length=some (.inr (some v)):=by
    unfold zbw
    rw [if_neg (by simp [hn])]
   rw [zbc]
   dsimp only
   rw [e]
   simp
  |succ n ih=>
   intro q v hq
   have hlt:q<st.length:=by omega
   obtain⟨tb,e1,e2⟩:=hs q hlt
   have e:zbw s v q=some (if(st[q]==3)=true then .inr (some 2)else if(st[q]==0)=true then .inl (0,((q+1:Nat):Int))else .inl (v,((q+1:Nat):Int))):=by
    unfold zbw
    rw [if_pos (by simp;omega),e1,Option.bind_some,e2,Option.bind_some,zaN hlt (by omega)]
    cases(st[q]==3)<;>cases(st[q]==0)<;>rfl
   rw [zbc,List.drop_eq_getElem_cons hlt,List.contains_cons,List.contains_cons]
   dsimp only
   rw [e]
   by_cases h1:st[q]=3
   ·simp [h1]
   ·have i0:=ih (q+1) 0 (by omega)
    have iv:=ih (q+1) v (by omega)
    have h1a:(st[q]==3)=false:=by simpa using h1
    have h1b:((3:Int)==st[q])=false:=by simp;omega
    rw [h1a,h1b,Bool.false_or]
    by_cases h2:st[q]=0
    ·simp only [h2,beq_self_eq_true,Bool.true_or,if_true,Bool.false_eq_true,if_false]
     rw [i0];split<;>(try split)<;>rfl
    ·have h2a:(st[q]==0)=false:=by simpa using h2
     have h2b:((0:Int)==st[q])=false:=by simp;omega
     rw [h2a,h2b,Bool.false_or]
     exact iv
 have:=key st.length 0 1 (by omega)
 unfold zep
 simpa [zEM]using this
end Go.Proofs.YtgobcjbjogkpjaaGreatDoor
end
section
namespace Go.Proofs.YtgobcjbjogkpjaaGreatDoor
open Go.RowKit
set_option maxRecDepth 100000
theorem zy6 {s:zag} {st:List Int} (hn:st.length=s.fAt.length) (hl:st.length≤2000000) (hs: ∀(i:Nat) (hi:i<st.length),∃y tb k x,zay s.fAt i=some y∧zay s.fWays y=some tb∧zbj tb s.fName=some k∧zay tb.fIdxs k=some x∧x.fStage=st[i]):zfU s=some st:=by
 unfold zfU
 have h1:=zbN (xs:=st) (body:=fun x:List Int × Int=>zck s x.1 x.2) (fun i (o:List Int)=>(o,i)) (fun(o:List Int) x=>o++ [x]) (fun o=>some o) (fun i o=>o.length=i)
  (fun i hi o ho=>by
   refine⟨?_,by simp [ho]⟩
   obtain⟨y,tb,k,x,e1,e2,e3,e4,e5⟩:=hs i hi
   show zck s o i=_
   unfold zck
   have hq:((((o).length:Int)+(([x.fStage]:List Int).length:Int))*8≤140737488355328∧((o).length:Int)+(([x.fStage]:List Int).length:Int)≤140737488355328):=by rw [List.length_singleton];omega
   rw [if_pos (by simp;omega),e1,Option.bind_some,e2,Option.bind_some,e3,Option.bind_some,e4,Option.bind_some,zad hq,zaN hi (by omega),e5])
  (fun o ho=>by
   show zck s o st.length=_
   unfold zck
   rw [if_neg (by simp [hn])]) (s:=([]:List Int)) rfl
 have h3:=h1.1
 rw [show(fun(o:List Int) x=>o++ [x])=(fun o x=>o++ [id x])from rfl,znG,List.map_id,List.nil_append]at h3
 exact h3
theorem zDx {s:zag} {st:List Int} (hn:st.length=s.fAt.length) (hl:st.length≤2000000) (hs: ∀(i:Nat) (hi:i<st.length),∃y tb k x,zay s.fAt i=some y∧zay s.fWays y=some tb∧zbj tb s.fName=some k∧zay tb.fIdxs k=some x∧x.fStage=st[i]):zhI s=some (zEM st):=by
 unfold zhI zEM
 rw [zy6 hn hl hs,Option.bind_some,zzu hl,Option.bind_some,zzu hl,Option.bind_some]
 split<;>(try split)<;>rfl
end Go.Proofs.YtgobcjbjogkpjaaGreatDoor
end
section
namespace Go.Proofs.YtgobcjbjogkpjaaGreatDoor
open Go.RowKit
set_option maxRecDepth 100000
theorem zsY {α:Type} {xs:List α} {i:Int} {x:α} (h:zay xs i=some x):0≤i∧xs[i.toNat]?=some x∧i<xs.length:=by
 unfold zay at h
 split at h
 ·rename_i h0
  have:=(List.getElem?_eq_some_iff.1 h).1
  exact⟨h0,h,by omega⟩
 ·cases h
def zmY (t:zab) (k c:Int):zab:=⟨t.fName,t.fCols,t.fIdxs.set k.toNat {((t.fIdxs[k.toNat]?).getD ⟨[],0,0⟩)with fStage:=c}⟩
def zhV (a b:Int):Int:=if a<b then a+1 else a-1
def zs5:Nat→Int→Int→List Int
 |0,_,_=> []
 |f+1,a,b=>if a=b then []else zhV a b::zs5 f (zhV a b) b
def way (t:zab) (k a b:Int):List zab:=t::(zs5 3 a b).map (zmY t k)
theorem zxa: ∀(f:Nat) {a b:Int},0≤a→a≤3→0≤b→b≤3→ ∀c∈zs5 f a b,0≤c∧c≤3
 |0,_,_,_,_,_,_,c,hc=>by simp [zs5]at hc
 |f+1,a,b,h1,h2,h3,h4,c,hc=>by
  unfold zs5 at hc
  split at hc
  ·simp at hc
  ·have hn:0≤zhV a b∧zhV a b≤3:=by unfold zhV;split<;>omega
   rcases List.mem_cons.1 hc with rfl|hc
   ·exact hn
   ·exact zxa f hn.1 hn.2 h3 h4 c hc
theorem zsW {t:zab} {k b:Int} {body:Int × List zab→Option ((Int × List zab) ⊕ Option (List zab))} (hb0:0≤b) (hb3:b≤3)
  (hs: ∀a o,0≤a→a≤3→a≠b→o.length≤100→body (a,o)=some (.inl (zhV a b,o++ [zmY t k (zhV a b)]))) (he: ∀o,body (b,o)=some (.inr (some o))):
  ∀(f:Nat) (a:Int) (o:List zab),0≤a→a≤3→(a-b).natAbs≤f→o.length+f≤100→zal body (a,o)=some (o++(zs5 f a b).map (zmY t k))
 |0,a,o,_,_,hf,_=>by
  have:a=b:=by omega
  subst this
  rw [zbc,he];simp [zs5]
 |f+1,a,o,h0,h3,hf,ho=>by
  by_cases hab:a=b
  ·subst hab
   rw [zbc,he];simp [zs5]
  ·rw [zbc,hs a o h0 h3 hab (by omega)]
   have hn:0≤zhV a b∧zhV a b≤3∧(zhV a b-b).natAbs≤f:=by unfold zhV;split<;>omega
   have:=zsW hb0 hb3 hs he f (zhV a b) (o++ [zmY t k (zhV a b)]) hn.1 hn.2.1 hn.2.2 (by simp;omega)
   simp only [this,zs5,if_neg hab,List.map_cons,List.append_assoc,List.singleton_append]
theorem zz9 {t:zab} (h:zdr t):zfn t=some t:=by
 unfold zfn
 have h1:=h.cols
 have h2:=h.idxs
 rw [zad (by simp;omega),zad (by simp;omega)]
theorem zv8 {t:zab} (h:zdr t):zdz t=some t:=by
 unfold zdz zaX zbJ
 have h1:=h.cols
 have h2:=h.idxs
 rw [zlX (by omega) (by omega),Option.bind_some,zlX (by omega) (by omega),Option.bind_some]
theorem zCa {t:zab} {n:Str} {x:zbB} {c:Int} (h:zdr t) (hx:zgZ t n x):zgz t n c=some (zmY t (zig (fun y:zbB=>y.fName==n) t.fIdxs) c):=by
 unfold zgz zmY
 rw [zz9 h,Option.bind_some,zqf h,Option.bind_some,hx.at_,Option.bind_some,(zsY hx.at_).2.1]
 rfl
theorem zCC {t:zab} {n:Str} {x:zbB} {c:Int} (h:zdr t) (hx:zgZ t n x):zbS t n c=some (zmY t (zig (fun y:zbB=>y.fName==n) t.fIdxs) c):=by
 unfold zbS zmY
 rw [zv8 h,Option.bind_some,zuz h,Option.bind_some,hx.at_,Option.bind_some,(zsY hx.at_).2.1]
 rfl
theorem zEX {t:zab} {n:Str} {x:zbB} {b:Int} (h:zdr t) (hx:zgZ t n x) (h0:0≤x.fStage) (h3:x.fStage≤3) (hb0:0≤b) (hb3:b≤3):ziL t n b=some (way t (zig (fun y:zbB=>y.fName==n) t.fIdxs) x.fStage b):=by
 unfold ziL
 rw [zz9 h,Option.bind_some,zqf h,Option.bind_some,hx.at_,Option.bind_some]
 refine(zsW (t:=t) (k:=zig (fun y:zbB=>y.fName==n) t.fIdxs) hb0 hb3 ?_ ?_ 3 x.fStage [t] h0 h3 (by omega) (by simp)).trans (by simp [way])
 ·intro a o ha0 ha3 hab ho
  show zeJ t n b a o=_
  unfold zeJ
  rw [if_pos (by simpa using hab)]
  have w1:IntKind.i64.wrap (a+1)=a+1:=zaC (by omega) (by omega)
  have w2:IntKind.i64.wrap (a-1)=a-1:=zaC (by omega) (by omega)
  by_cases hlt:a<b
  ·rw [if_pos (by simpa using hlt),w1,zCa h hx,Option.bind_some,zad (by simp;omega)]
   simp [zhV,hlt]
  ·rw [if_neg (by simpa using hlt),w2,zCa h hx,Option.bind_some,zad (by simp;omega)]
   simp [zhV,hlt]
 ·intro o
  show zeJ t n b b o=_
  unfold zeJ
  rw [if_neg (by simp)]
theorem zD2 {t:zab} {n:Str} {x:zbB} {b:Int} (h:zdr t) (hx:zgZ t n x) (h0:0≤x.fStage) (h3:x.fStage≤3) (hb0:0≤b) (hb3:b≤3):zdY t n b=some (way t (zig (fun y:zbB=>y.fName==n) t.fIdxs) x.fStage b):=by
 unfold zdY zbr
 rw [zuz h,Option.bind_some,hx.at_,Option.bind_some,Option.bind_some,zv8 h,Option.bind_some]
 refine(zsW (t:=t) (k:=zig (fun y:zbB=>y.fName==n) t.fIdxs) hb0 hb3 ?_ ?_ 3 x.fStage [t] h0 h3 (by omega) (by simp)).trans (by simp [way])
 ·intro a o ha0 ha3 hab ho
  show zbY t n b a o=_
  unfold zbY
  rw [if_pos (by simpa using hab)]
  have w1:IntKind.i64.wrap (a+1)=a+1:=zaC (by omega) (by omega)
  have w2:IntKind.i64.wrap (a-1)=a-1:=zaC (by omega) (by omega)
  by_cases hlt:a<b
  ·rw [if_pos (by simpa using hlt),w1,zCC h hx,Option.bind_some,zad (by simp;omega)]
   simp [zhV,hlt]
  ·rw [if_neg (by simpa using hlt),w2,zCC h hx,Option.bind_some,zad (by simp;omega)]
   simp [zhV,hlt]
 ·intro o
  show zbY t n b b o=_
  unfold zbY
  rw [if_neg (by simp)]
theorem zj5 {α β:Type} {xs ys:List α} (hl:xs.length=ys.length) {body:Int→Option (Int ⊕ Option β)} (p:α→α→Bool) (b:β) (fin:Option β)
  (hs: ∀(i:Nat) (hi:i<xs.length) (hj:i<ys.length),body i=some (if p xs[i] ys[i]=true then .inl ((i+1:Nat):Int)else .inr (some b))) (he:body xs.length=some (.inr fin)):zal body 0=if((xs.zip ys).all fun z=>p z.1 z.2)=true then fin else some b:=by
 have hz:(xs.zip ys).length=xs.length:=by simp [hl]
 have h1:=znx (xs:=xs.zip ys) (body:=body) (fun i (_:Unit)=>i) (fun z _=>some (if p z.1 z.2=true then .inl ()else .inr (some b))) (fun _=>fin)
  (fun i hi s=>by
   have hi1:i<xs.length:=by omega
   have hi2:i<ys.length:=by omega
   rw [hs i hi1 hi2,List.getElem_zip]
   cases p xs[i] ys[i]<;>simp [ztT]) (fun s=>by rw [hz];exact he) ()
 rw [zvD (fun z:α × α=>p z.1 z.2) b fun x _ s=>rfl]at h1
 exact h1
theorem zmV {α γ:Type} {p:α→α→Bool} {f:α→γ} (h: ∀x y,p x y=true↔f x=f y): ∀{xs ys:List α},xs.length=ys.length→(((xs.zip ys).all fun z=>p z.1 z.2)=true↔xs.map f=ys.map f)
 | [], [],_=>by simp
 | [],_::_,h=>by simp at h
 |_::_, [],h=>by simp at h
 |x::xs,y::ys,hl=>by
  have:=zmV h (xs:=xs) (ys:=ys) (by simpa using hl)
  simp only [List.zip_cons_cons,List.all_cons,Bool.and_eq_true,List.map_cons,List.cons.injEq,this,h]
def nc (x:zbB):Str × Int:=(x.fName,x.fCol)
theorem zAr {x y:zbB} (h1:nc x=nc y) (h2:x.fStage=y.fStage):x=y:=by
 cases x;cases y
 simp [nc]at h1 h2
 simp [h1,h2]
theorem ztG: ∀{xs ys:List zbB},xs.map nc=ys.map nc→xs.map (·.fStage)=ys.map (·.fStage)→xs=ys
 | [], [],_,_=>rfl
 | [],_::_,h,_=>by simp at h
 |_::_, [],h,_=>by simp at h
 |x::xs,y::ys,h1,h2=>by
  simp only [List.map_cons,List.cons.injEq]at h1 h2
  rw [zAr h1.1 h2.1,ztG h1.2 h2.2]
theorem zpK {a b:zab} (h1:a.fName=b.fName) (h2:a.fCols=b.fCols) (h3:a.fIdxs=b.fIdxs):a=b:=by
 cases a;cases b;simp at h1 h2 h3;simp [h1,h2,h3]
theorem zxy {a b:zab} (ha:zdr a): ∃r,ze0 a b=some r∧(r=true↔a.fName=b.fName∧a.fCols=b.fCols∧a.fIdxs.map nc=b.fIdxs.map nc):=by
 unfold ze0
 by_cases h0:(((a.fName !=b.fName)||((a.fCols.length:Int) !=(b.fCols.length:Int)))||((a.fIdxs.length:Int) !=(b.fIdxs.length:Int)))=true
 ·rw [if_pos h0]
  refine⟨_,rfl,by simp, ?_⟩
  rintro⟨h1,h2,h3⟩
  have h4:=congrArg List.length h3
  simp only [List.length_map]at h4
  rw [h1,h2,h4]at h0
  simp at h0
 ·rw [if_neg h0]
  simp only [Bool.or_eq_true,bne_iff_ne,ne_eq,not_or,Decidable.not_not,Int.natCast_inj]at h0
  obtain⟨⟨h1,h2⟩,h3⟩:=h0
  have hc:=ha.cols
  have hi:=ha.idxs
  rw [zj5 (xs:=a.fCols) (ys:=b.fCols) h2 (fun x y=>x==y) false (zdF a b) ?_ ?_]
  ·have hk:zdF a b=some ((a.fIdxs.zip b.fIdxs).all fun z=>nc z.1==nc z.2):=by
    unfold zdF
    rw [zj5 (xs:=a.fIdxs) (ys:=b.fIdxs) h3 (fun x y=>nc x==nc y) false (some true) ?_ ?_]
    ·cases((a.fIdxs.zip b.fIdxs).all fun z=>nc z.1==nc z.2)<;>rfl
    ·intro i hi1 hj1
     show zcv a b i=_
     unfold zcv
     rw [if_pos (by simpa using hi1),zac hi1,Option.bind_some,zac hj1,Option.bind_some,zaN hi1 (by omega)]
     by_cases hq:nc a.fIdxs[i]=nc b.fIdxs[i]
     ·have hq2:=hq
      simp only [nc,Prod.mk.injEq]at hq2
      rw [if_neg (by simp [hq2.1,hq2.2]),if_pos (by simpa using hq)]
     ·have hq2:=hq
      simp only [nc,Prod.mk.injEq,not_and]at hq2
      rw [if_pos (by simp only [Bool.or_eq_true,bne_iff_ne,ne_eq];by_cases hz:a.fIdxs[i].fName=b.fIdxs[i].fName;exact .inr (hq2 hz);exact .inl hz),if_neg (by simpa using hq)]
    ·show zcv a b a.fIdxs.length=_
     unfold zcv
     rw [if_neg (by simp)]
   have z1:=zmV (p:=fun x y:Str=>x==y) (f:=id) (by simp) h2
   have z2:=zmV (p:=fun x y:zbB=>nc x==nc y) (f:=nc) (by simp) h3
   rw [List.map_id,List.map_id]at z1
   rw [hk]
   by_cases hz:((a.fCols.zip b.fCols).all fun z=>z.1==z.2)=true
   ·rw [if_pos hz]
    exact⟨_,rfl,by rw [z2];exact⟨fun h=>⟨h1,z1.1 hz,h⟩,fun h=>h.2.2⟩⟩
   ·rw [if_neg hz]
    exact⟨_,rfl,by simp,fun h=>absurd (z1.2 h.2.1) hz⟩
  ·intro i hi1 hj1
   show zcE a b i=_
   unfold zcE
   rw [if_pos (by simpa using hi1),zac hi1,Option.bind_some,zac hj1,Option.bind_some,zaN hi1 (by omega)]
   by_cases hq:a.fCols[i]=b.fCols[i]
   ·rw [if_neg (by simp [hq]),if_pos (by simpa using hq)]
   ·rw [if_pos (by simpa using hq),if_neg (by simpa using hq)]
  ·show zcE a b a.fCols.length=_
   unfold zcE
   rw [if_neg (by simp)]
structure zCn (t:zab):Prop where
 len:t.fIdxs.length≤3
 stg: ∀x∈t.fIdxs,0≤x.fStage∧x.fStage≤3
theorem zxc: ∀(l:List (zbB × zbB)) (s:Int),0≤s→(l.foldl (fun s z=>s+((z.1.fStage-z.2.fStage).natAbs:Int)) s=0↔s=0∧ ∀z∈l,z.1.fStage=z.2.fStage)
 | [],s,_=>by simp
 |z::l,s,h=>by
  rw [List.foldl_cons,zxc l _ (by omega)]
  constructor
  ·rintro⟨h1,h2⟩
   exact⟨by omega,fun y hy=>by
    rcases List.mem_cons.1 hy with rfl|hy
    ·omega
    ·exact h2 y hy⟩
  ·rintro⟨h1,h2⟩
   have:=h2 z (by simp)
   exact⟨by omega,fun y hy=>h2 y (by simp [hy])⟩
theorem zuQ: ∀{xs ys:List zbB},xs.length=ys.length→((∀z∈xs.zip ys,z.1.fStage=z.2.fStage)↔xs.map (·.fStage)=ys.map (·.fStage))
 | [], [],_=>by simp
 | [],_::_,h=>by simp at h
 |_::_, [],h=>by simp at h
 |x::xs,y::ys,hl=>by
  have:=zuQ (xs:=xs) (ys:=ys) (by simpa using hl)
  simp only [List.zip_cons_cons,List.forall_mem_cons,this,List.map_cons,List.cons.injEq]
theorem zEs (d:Int) (h1: -3≤d) (h2:d≤3):ziA d (IntKind.i64.wrap (0-d))=some (d.natAbs:Int):=by
 rw [zaC (by omega) (by omega)]
 unfold ziA
 by_cases h:d>0-d
 ·rw [if_pos (by simpa using h)];congr 1;omega
 ·rw [if_neg (by simpa using h)];congr 1;omega
theorem zFy {a b:zab} (ha:zCn a) (hb:zCn b) (hl:a.fIdxs.length=b.fIdxs.length): ∃v,ziu a b=some v∧(v=0↔a.fIdxs.map (·.fStage)=b.fIdxs.map (·.fStage)):=by
 unfold ziu
 have h3:=ha.len
 have hz:(a.fIdxs.zip b.fIdxs).length=a.fIdxs.length:=by simp [hl]
 have h1:=zbN (xs:=a.fIdxs.zip b.fIdxs) (body:=fun s:Int × Int=>zdB a b s.1 s.2) (fun i (s:Int)=>(s,i)) (fun(s:Int) z=>s+((z.1.fStage-z.2.fStage).natAbs:Int)) (fun s=>some s) (fun i s=>0≤s∧s≤3*(i:Int))
  (fun i hi s hs=>by
   have hi1:i<a.fIdxs.length:=by omega
   have hi2:i<b.fIdxs.length:=by omega
   have ga:=ha.stg a.fIdxs[i] (List.getElem_mem hi1)
   have gb:=hb.stg b.fIdxs[i] (List.getElem_mem hi2)
   rw [List.getElem_zip]
   refine⟨?_, ?_, ?_⟩
   ·show zdB a b s i=_
    unfold zdB
    rw [if_pos (by simpa using hi1),zac hi1,Option.bind_some,zac hi2,Option.bind_some,zaC (n:=a.fIdxs[i].fStage-b.fIdxs[i].fStage) (by omega) (by omega),zEs _ (by omega) (by omega),Option.bind_some,zaN hi1 (by omega),zaC (by omega) (by omega)]
   ·dsimp only;omega
   ·dsimp only;push_cast;omega)
  (fun s hs=>by
   show zdB a b s ((a.fIdxs.zip b.fIdxs).length:Int)=_
   unfold zdB
   rw [hz,if_neg (by simp)]) (s:=0) ⟨by omega,by omega⟩
 refine⟨_,h1.1, ?_⟩
 rw [zxc _ _ (by omega),←zuQ hl]
 simp
def eqT (a b:zab):Bool:=a.fName==b.fName&&(a.fCols==b.fCols&&(a.fIdxs.map nc==b.fIdxs.map nc&&a.fIdxs.map (·.fStage)==b.fIdxs.map (·.fStage)))
theorem zof {a b:zab}:eqT a b=true↔a=b:=by
 unfold eqT
 simp only [Bool.and_eq_true,beq_iff_eq]
 constructor
 ·rintro⟨h1,h2,h3,h4⟩;exact zpK h1 h2 (ztG h3 h4)
 ·rintro rfl;simp
theorem zBL {a b:zab} (ha:zdr a):zb8 a b=some (eqT a b):=by
 have key: ∃r,zb8 a b=some r∧(r=true↔a=b):=by
  unfold zb8
  by_cases h1:(a.fName==b.fName)=true
  ·rw [if_pos h1]
   have h1':a.fName=b.fName:=by simpa using h1
   have e1: ∃r,zbi a.fCols b.fCols=some r∧(r=true↔a.fCols=b.fCols):=by
    unfold zbi
    by_cases h2:((a.fCols.length:Int) !=(b.fCols.length:Int))=true
    ·rw [if_pos h2]
     exact⟨_,rfl,by simp,fun h=>by rw [h]at h2;simp at h2⟩
    ·rw [if_neg h2]
     have h2':a.fCols.length=b.fCols.length:=by
      have:(a.fCols.length:Int)=b.fCols.length:=by simpa using h2
      omega
     rw [zj5 (xs:=a.fCols) (ys:=b.fCols) h2' (fun x y=>x==y) false (some true) ?_ ?_]
     ·have z1:=zmV (p:=fun x y:Str=>x==y) (f:=id) (by simp) h2'
      rw [List.map_id,List.map_id]at z1
      rw [←z1]
      cases hz:((a.fCols.zip b.fCols).all fun z=>z.1==z.2)<;>exact⟨_,rfl,by simp⟩
     ·intro i hi1 hj1
      show zaG a.fCols b.fCols i=_
      unfold zaG
      have:=ha.cols
      rw [if_pos (by simpa using hi1),zac hi1,Option.bind_some,zac hj1,Option.bind_some,zaN hi1 (by omega)]
      by_cases hq:a.fCols[i]=b.fCols[i]
      ·rw [if_neg (by simp [hq]),if_pos (by simpa using hq)]
      ·rw [if_pos (by simpa using hq),if_neg (by simpa using hq)]
     ·show zaG a.fCols b.fCols a.fCols.length=_
      unfold zaG
      rw [if_neg (by simp)]
   obtain⟨r1,e1,f1⟩:=e1
   rw [e1,Option.bind_some]
   by_cases h2:r1=true
   ·rw [if_pos h2]
    have h2':=f1.1 h2
    have e2: ∃r,za1 a.fIdxs b.fIdxs=some r∧(r=true↔a.fIdxs=b.fIdxs):=by
     unfold za1
     by_cases h3:((a.fIdxs.length:Int) !=(b.fIdxs.length:Int))=true
     ·rw [if_pos h3]
      exact⟨_,rfl,by simp,fun h=>by rw [h]at h3;simp at h3⟩
     ·rw [if_neg h3]
      have h3':a.fIdxs.length=b.fIdxs.length:=by
       have:(a.fIdxs.length:Int)=b.fIdxs.length:=by simpa using h3
       omega
      rw [zj5 (xs:=a.fIdxs) (ys:=b.fIdxs) h3' (fun x y=>x.fName==y.fName&&(x.fCol==y.fCol&&(x.fStage==y.fStage))) false (some true) ?_ ?_]
      ·have z1:=zmV (p:=fun x y:zbB=>x.fName==y.fName&&(x.fCol==y.fCol&&(x.fStage==y.fStage))) (f:=id) (fun x y=>by
        simp only [Bool.and_eq_true,beq_iff_eq,id]
        constructor
        ·rintro⟨k1,k2,k3⟩;exact zAr (by simp [nc,k1,k2]) k3
        ·rintro rfl;simp) h3'
       rw [List.map_id,List.map_id]at z1
       rw [←z1]
       cases((a.fIdxs.zip b.fIdxs).all fun z=>z.1.fName==z.2.fName&&(z.1.fCol==z.2.fCol&&(z.1.fStage==z.2.fStage)))<;>exact⟨_,rfl,by simp⟩
      ·intro i hi1 hj1
       show zaA a.fIdxs b.fIdxs i=_
       unfold zaA
       have:=ha.idxs
       rw [if_pos (by simpa using hi1),zac hi1,Option.bind_some,zac hj1,Option.bind_some,zaN hi1 (by omega)]
       cases(a.fIdxs[i].fName==b.fIdxs[i].fName&&(a.fIdxs[i].fCol==b.fIdxs[i].fCol&&(a.fIdxs[i].fStage==b.fIdxs[i].fStage)))<;>rfl
      ·show zaA a.fIdxs b.fIdxs a.fIdxs.length=_
       unfold zaA
       rw [if_neg (by simp)]
    obtain⟨r2,e2,f2⟩:=e2
    rw [e2,Option.bind_some]
    exact⟨_,rfl,by rw [f2];exact⟨fun h=>zpK h1' h2' h,fun h=>by rw [h]⟩⟩
   ·rw [if_neg h2]
    exact⟨_,rfl,by simp,fun h=>absurd (f1.2 (by rw [h])) h2⟩
  ·rw [if_neg h1]
   exact⟨_,rfl,by simp,fun h=>by rw [h]at h1;simp at h1⟩
 obtain⟨r,e,f⟩:=key
 rw [e];congr 1
 rw [Bool.eq_iff_iff,f,zof]
end Go.Proofs.YtgobcjbjogkpjaaGreatDoor
end
section
namespace Go.Proofs.YtgobcjbjogkpjaaGreatDoor
open Go.RowKit
set_option maxRecDepth 100000
structure ziY (s:zag):Prop where
 name:s.fName.length≤2000000
 ways:s.fWays.length≤2000000
 way: ∀t∈s.fWays,zdr t
 at_:s.fAt.length≤2000000
 store:zpT s.fStore
theorem zy1 {t:zab} (h:zar t=true):zCn t:=by
 unfold zar at h
 simp only [Bool.and_eq_true,decide_eq_true_eq]at h
 refine⟨by omega,fun x hx=> ?_⟩
 obtain⟨i,hi,rfl⟩:=List.mem_iff_getElem.1 hx
 have h1:=List.all_eq_true.1 h.2 i (List.mem_range.2 hi)
 unfold znP at h1
 simp only [Bool.and_eq_true,List.getElem?_eq_getElem hi,Option.getD_some]at h1
 exact zbb.1 h1.1.2
theorem zwN {α γ:Type} (f:α→γ): ∀(l:List α) (k:Nat) (d y:α),f y=f ((l[k]?).getD d)→(l.set k y).map f=l.map f
 | [],k,d,y,_=>rfl
 |x::l,0,d,y,h=>by
  simp only [List.getElem?_cons_zero,Option.getD_some]at h
  simp [h]
 |x::l,k+1,d,y,h=>by
  simp only [List.getElem?_cons_succ]at h
  simp [zwN f l k d y h]
theorem zp8 (t:zab) (k c:Int):(zmY t k c).fIdxs.map (·.fName)=t.fIdxs.map (·.fName):=zwN _ _ _ ⟨[],0,0⟩ _ rfl
theorem zzz {t:zab} {k c:Int} (h:zCn t) (h0:0≤c) (h3:c≤3):zCn (zmY t k c):=by
 refine⟨by unfold zmY;simpa using h.len,fun x hx=> ?_⟩
 rcases List.mem_or_eq_of_mem_set hx with hx|rfl
 ·exact h.stg x hx
 ·exact⟨h0,h3⟩
theorem zwa {t:zab} {k c:Int} (h:zdr t):zdr (zmY t k c):=by
 refine⟨h.name,h.cols,h.col,by unfold zmY;simpa using h.idxs,fun x hx=> ?_⟩
 have h1:x.fName∈(zmY t k c).fIdxs.map (·.fName):=List.mem_map.2 ⟨x,hx,rfl⟩
 rw [zp8]at h1
 obtain⟨y,hy,e⟩:=List.mem_map.1 h1
 rw [←e];exact h.idx y hy
theorem zDk {t:zab} {k a b:Int} (hS:zdr t) (h:zCn t) (ha0:0≤a) (ha3:a≤3) (hb0:0≤b) (hb3:b≤3): ∀w∈way t k a b,w.fIdxs.map (·.fName)=t.fIdxs.map (·.fName)∧zCn w∧zdr w:=by
 intro w hw
 rcases List.mem_cons.1 hw with rfl|hw
 ·exact⟨rfl,h,hS⟩
 ·obtain⟨c,hc,rfl⟩:=List.mem_map.1 hw
  have:=zxa 3 ha0 ha3 hb0 hb3 c hc
  exact⟨zp8 t k c,zzz h this.1 this.2,zwa hS⟩
theorem zzT {xs ys:List zbB} {n:Str} (h:xs.map (·.fName)=ys.map (·.fName)):decide (zig (fun x:zbB=>x.fName==n) xs≥0)=decide (zig (fun x:zbB=>x.fName==n) ys≥0):=by
 rw [zlJ,zlJ]
 have e: ∀l:List zbB,(l.any fun x=>x.fName==n)=(l.map (·.fName)).any (· ==n):=fun l=>by rw [List.any_map];rfl
 rw [e,e,h]
def noT:zab:=⟨[], [], []⟩
def zdQ (s:zag):zab:=(s.fWays[0]?).getD noT
def zm4 (s:zag):zab:=(s.fWays[s.fWays.length-1]?).getD noT
def kOf (t:zab) (n:Str):Int:=zig (fun y:zbB=>y.fName==n) t.fIdxs
def zrK (t:zab) (n:Str):Int:=((t.fIdxs[(kOf t n).toNat]?).getD ⟨[],0,0⟩).fStage
def ziE (s:zag):List zab:=way (zdQ s) (kOf (zdQ s) s.fName) (zrK (zdQ s) s.fName) (zrK (zm4 s) s.fName)
theorem zBe {t:zab} {n:Str} {x:zbB} (h:zgZ t n x):zrK t n=x.fStage:=by
 unfold zrK kOf
 rw [(zsY h.at_).2.1];rfl
theorem zqE {s:zag} (h:1≤s.fWays.length):zay s.fWays 0=some (zdQ s)∧zdQ s∈s.fWays:=by
 have h0:0<s.fWays.length:=by omega
 have e:zdQ s=s.fWays[0]:=by unfold zdQ;rw [List.getElem?_eq_getElem h0];rfl
 rw [e]
 exact⟨zac h0,List.getElem_mem h0⟩
theorem zwA {s:zag} (h:1≤s.fWays.length) (h4:s.fWays.length≤4):zay s.fWays (IntKind.i64.wrap ((s.fWays.length:Int)-1))=some (zm4 s)∧zm4 s∈s.fWays:=by
 have h0:s.fWays.length-1<s.fWays.length:=by omega
 have e:zm4 s=s.fWays[s.fWays.length-1]:=by unfold zm4;rw [List.getElem?_eq_getElem h0];rfl
 have w:IntKind.i64.wrap ((s.fWays.length:Int)-1)=((s.fWays.length-1:Nat):Int):=by rw [zaC (by omega) (by omega)];omega
 rw [e,w]
 exact⟨zac h0,List.getElem_mem h0⟩
theorem zpR {t:zab} {n:Str} (h:zm5 t n=true): ∃x,zgZ t n x∧zrK t n=x.fStage∧0≤x.fStage∧x.fStage≤3∧zar t=true:=by
 obtain⟨x,hx,_⟩:=zCl h
 have hg:zar t=true:=by
  unfold zm5 at h
  simp only [Bool.and_eq_true]at h
  exact h.1
 have:=(zy1 hg).stg x (zBO hx.at_)
 exact⟨x,hx,zBe hx,this.1,this.2,hg⟩
theorem zDE {s:zag} (hS:ziY s) (h1:1≤s.fWays.length) (h4:s.fWays.length≤4): ∃sw,zeQ s=some sw∧(sw=true↔(∀t∈s.fWays,zm5 t s.fName=true)∧s.fWays=ziE s):=by
 unfold zeQ
 obtain⟨e0,m0⟩:=zqE h1
 obtain⟨e1,m1⟩:=zwA h1 h4
 have S0:=hS.way _ m0
 have S1:=hS.way _ m1
 rw [zlg,Option.bind_some,if_pos (zbb.2 ⟨by omega,by omega⟩),e0,Option.bind_some,znh S0,Option.bind_some]
 have no: ∀{t:zab},t∈s.fWays→zm5 t s.fName≠true→(false=true↔(∀t∈s.fWays,zm5 t s.fName=true)∧s.fWays=ziE s):=fun ht hn=>⟨by simp,fun h=>absurd (h.1 _ ht) hn⟩
 by_cases g0:zar (zdQ s)=true
 ·rw [if_pos g0,zqf S0,Option.bind_some]
  by_cases k0:zig (fun x:zbB=>x.fName==s.fName) (zdQ s).fIdxs<0
  ·rw [if_pos (by simpa using k0)]
   exact⟨_,rfl,no m0 (by unfold zm5;intro hq;rw [Bool.and_eq_true,decide_eq_true_eq]at hq;omega)⟩
  ·rw [if_neg (by simpa using k0),e1,Option.bind_some,znh S1,Option.bind_some]
   by_cases g1:zar (zm4 s)=true
   ·rw [if_pos g1,zqf S1,Option.bind_some]
    by_cases k1:zig (fun x:zbB=>x.fName==s.fName) (zm4 s).fIdxs<0
    ·rw [if_pos (by simpa using k1)]
     exact⟨_,rfl,no m1 (by unfold zm5;intro hq;rw [Bool.and_eq_true,decide_eq_true_eq]at hq;omega)⟩
    ·rw [if_neg (by simpa using k1),Option.bind_some]
     have H0:zm5 (zdQ s) s.fName=true:=by unfold zm5;simp only [Bool.and_eq_true,decide_eq_true_eq];exact⟨g0,by omega⟩
     have H1:zm5 (zm4 s) s.fName=true:=by unfold zm5;simp only [Bool.and_eq_true,decide_eq_true_eq];exact⟨g1,by omega⟩
     obtain⟨x,hx,sx,x0,x3,_⟩:=zpR H0
     obtain⟨y,hy,sy,y0,y3,_⟩:=zpR H1
     rw [hy.at_,Option.bind_some,zEX S0 hx x0 x3 y0 y3,Option.bind_some]
     have hW:way (zdQ s) (zig (fun y:zbB=>y.fName==s.fName) (zdQ s).fIdxs) x.fStage y.fStage=ziE s:=by unfold ziE kOf;rw [sx,sy]
     rw [hW]
     have hM:=zDk (t:=zdQ s) (k:=kOf (zdQ s) s.fName) (a:=zrK (zdQ s) s.fName) (b:=zrK (zm4 s) s.fName) S0 (zy1 g0) (by omega) (by omega) (by omega) (by omega)
     have hM: ∀w∈ziE s,w.fIdxs.map (·.fName)=(zdQ s).fIdxs.map (·.fName)∧zCn w∧zdr w:=hM
     by_cases hl:((ziE s).length:Int) !=(s.fWays.length:Int)
     ·rw [if_pos hl]
      exact⟨_,rfl,by simp,fun h=>by rw [←h.2]at hl;simp at hl⟩
     ·rw [if_neg hl]
      have hl':(ziE s).length=s.fWays.length:=by
       have:((ziE s).length:Int)=(s.fWays.length:Int):=by simpa using hl
       omega
      rw [zj5 (xs:=ziE s) (ys:=s.fWays) hl' (fun w y=>zar y&&eqT w y) false (some true) ?_ ?_]
      ·have z1:=zmV (p:=eqT) (f:=id) (fun x y=>zof) hl'
       rw [List.map_id,List.map_id]at z1
       have z2:((ziE s).zip s.fWays).all (fun z=>zar z.2)=s.fWays.all zar:=by
        have:=List.map_snd_zip (l₁:=ziE s) (l₂:=s.fWays) (by omega)
        conv=>rhs;rw [←this]
        rw [List.all_map];rfl
       have z3:(((ziE s).zip s.fWays).all fun z=>zar z.2&&eqT z.1 z.2)=(s.fWays.all zar&&((ziE s).zip s.fWays).all fun z=>eqT z.1 z.2):=by
        rw [←z2]
        rw [Bool.eq_iff_iff]
        simp only [List.all_eq_true,Bool.and_eq_true]
        exact⟨fun h=>⟨fun z hz=>(h z hz).1,fun z hz=>(h z hz).2⟩,fun h z hz=>⟨h.1 z hz,h.2 z hz⟩⟩
       have key:(((ziE s).zip s.fWays).all fun z=>zar z.2&&eqT z.1 z.2)=true↔(∀t∈s.fWays,zm5 t s.fName=true)∧s.fWays=ziE s:=by
        rw [z3,Bool.and_eq_true,z1]
        constructor
        ·rintro⟨a1,a2⟩
         refine⟨fun t ht=> ?_,a2.symm⟩
         have q1:=List.all_eq_true.1 a1 t ht
         rw [←a2]at ht
         have q2:=zzT (n:=s.fName) (hM t ht).1
         unfold zm5 at H0 ⊢
         simp only [Bool.and_eq_true]at H0 ⊢
         exact⟨q1,by rw [q2];exact H0.2⟩
        ·rintro⟨a1,a2⟩
         exact⟨List.all_eq_true.2 fun t ht=>by have:=a1 t ht;unfold zm5 at this;simp only [Bool.and_eq_true]at this;exact this.1,a2.symm⟩
       by_cases hz:(((ziE s).zip s.fWays).all fun z=>zar z.2&&eqT z.1 z.2)=true
       ·rw [if_pos hz];exact⟨_,rfl,fun _=>key.1 hz,fun _=>rfl⟩
       ·rw [if_neg hz];exact⟨_,rfl,by simp,fun h=>absurd (key.2 h) hz⟩
      ·intro i hi hj
       show zeb s (ziE s) i=_
       unfold zeb
       have Sj:=hS.way _ (List.getElem_mem hj)
       obtain⟨_,Ti,Si⟩:=hM _ (List.getElem_mem hi)
       rw [if_pos (by simpa using hi),zac hj,Option.bind_some,znh Sj,Option.bind_some]
       by_cases gj:zar s.fWays[i]=true
       ·rw [if_pos gj,zac hi,Option.bind_some]
        obtain⟨r,er,fr⟩:=zxy (a:=(ziE s)[i]) (b:=s.fWays[i]) Si
        rw [er,Option.bind_some]
        by_cases hr:r=true
        ·rw [if_pos hr]
         obtain⟨c1,c2,c3⟩:=fr.1 hr
         have c4:=congrArg List.length c3
         simp only [List.length_map]at c4
         obtain⟨v,ev,fv⟩:=zFy Ti (zy1 gj) c4
         rw [ev,Option.bind_some,zaN hi (by omega)]
         by_cases hv:v=0
         ·have:=zof.2 (zpK c1 c2 (ztG c3 (fv.1 hv)))
          rw [if_neg (by simp [hv]),if_pos (by rw [gj,this];rfl)]
         ·rw [if_pos (by simpa using hv),if_neg (by
           simp only [Bool.and_eq_true,not_and]
           intro _ h
           rw [zof.1 h]at fv
           exact hv (fv.2 rfl))]
        ·rw [if_neg hr,if_neg (by
          simp only [Bool.and_eq_true,not_and]
          intro _ h
          rw [zof.1 h]at fr
          exact hr (fr.2 ⟨rfl,rfl,rfl⟩))]
       ·rw [if_neg gj,if_neg (by simp [gj])]
      ·show zeb s (ziE s) (ziE s).length=_
       unfold zeb
       rw [if_neg (by simp)]
   ·rw [if_neg g1]
    exact⟨_,rfl,no m1 (by unfold zm5;simp [g1])⟩
 ·rw [if_neg g0]
  exact⟨_,rfl,no m0 (by unfold zm5;simp [g0])⟩
theorem zDz {xs:List Int} {a b:Int} (h:xs.length≤2000000):zjp xs a b=some (xs.all fun y=>inB y a b):=by
 unfold zjp
 have h1:=znx (xs:=xs) (body:=fun s:Int=>zd0 xs a b s) (fun i (_:Unit)=>i) (fun y _=>some (if inB y a b=true then .inl ()else .inr (some false))) (fun _=>some true)
  (fun i hi s=>by
   show zd0 xs a b i=_
   unfold zd0
   rw [if_pos (by simpa using hi),zac hi,Option.bind_some,zlg,Option.bind_some,zaN hi (by omega)]
   cases inB xs[i] a b<;>simp [ztT]) (fun s=>by
   show zd0 xs a b xs.length=_
   unfold zd0
   rw [if_neg (by simp)]) ()
 rw [zvD (fun y=>inB y a b) false fun x _ s=>rfl]at h1
 refine h1.trans ?_
 cases(xs.all fun y=>inB y a b)<;>rfl
def zmG (s:zag):Prop:=1≤s.fWays.length∧s.fWays.length≤4∧(∀t∈s.fWays,zm5 t s.fName=true)∧s.fWays=ziE s∧inB s.fAt.length 1 3=true∧(∀y∈s.fAt,0≤y∧y≤(s.fWays.length:Int)-1)∧zc1 s.fStore=true
theorem zCj {s:zag}:(s.fAt.all fun y=>inB y 0 ((s.fWays.length:Int)-1))=true↔ ∀y∈s.fAt,0≤y∧y≤(s.fWays.length:Int)-1:=by
 rw [List.all_eq_true]
 exact⟨fun h y hy=>zbb.1 (h y hy),fun h y hy=>zbb.2 (h y hy)⟩
theorem zCL {s:zag} (hS:ziY s): ∃g,zfV s=some g∧(g=true↔zmG s):=by
 unfold zfV
 by_cases h:1≤s.fWays.length∧s.fWays.length≤4
 ·obtain⟨sw,e,f⟩:=zDE hS h.1 h.2
  rw [e,Option.bind_some]
  have w:IntKind.i64.wrap ((s.fWays.length:Int)-1)=(s.fWays.length:Int)-1:=zaC (by omega) (by omega)
  by_cases hw:sw=true
  ·rw [if_pos hw,zlg,Option.bind_some]
   by_cases h2:inB s.fAt.length 1 3=true
   ·rw [if_pos h2,w,zDz hS.at_,Option.bind_some]
    by_cases h3:(s.fAt.all fun y=>inB y 0 ((s.fWays.length:Int)-1))=true
    ·rw [if_pos h3,zqC hS.store,Option.bind_some]
     exact⟨_,rfl,fun h5=>⟨h.1,h.2,(f.1 hw).1,(f.1 hw).2,h2,zCj.1 h3,h5⟩,fun h5=>h5.2.2.2.2.2.2⟩
    ·rw [if_neg h3];exact⟨_,rfl,by simp,fun h5=>absurd (zCj.2 h5.2.2.2.2.2.1) h3⟩
   ·rw [if_neg h2];exact⟨_,rfl,by simp,fun h5=>absurd h5.2.2.2.2.1 h2⟩
  ·rw [if_neg hw];exact⟨_,rfl,by simp,fun h5=>absurd (f.2 ⟨h5.2.2.1,h5.2.2.2.1⟩) hw⟩
 ·have e:zeQ s=some false:=by
   unfold zeQ
   rw [zlg,Option.bind_some,if_neg (by rw [zbb];omega)]
  rw [e,Option.bind_some,if_neg (by simp)]
  exact⟨_,rfl,by simp,fun h5=>absurd ⟨h5.1,h5.2.1⟩ h⟩
theorem zyD {xs ys:List zab} (h: ∀t∈xs,zdr t) (hl:xs.length≤2000000): ∃r,zak xs ys (fun a b=>zb8 a b)=some r∧(r=true↔xs=ys):=by
 unfold zak
 by_cases h3:((xs.length:Int) !=(ys.length:Int))=true
 ·rw [if_pos h3]
  exact⟨_,rfl,by simp,fun h=>by rw [h]at h3;simp at h3⟩
 ·rw [if_neg h3]
  have h3':xs.length=ys.length:=by
   have:(xs.length:Int)=ys.length:=by simpa using h3
   omega
  rw [zj5 (xs:=xs) (ys:=ys) h3' eqT false (some true) ?_ ?_]
  ·have z1:=zmV (p:=eqT) (f:=id) (fun x y=>zof) h3'
   rw [List.map_id,List.map_id]at z1
   rw [←z1]
   cases((xs.zip ys).all fun z=>eqT z.1 z.2)<;>exact⟨_,rfl,by simp⟩
  ·intro i hi1 hj1
   show zah xs ys (fun a b=>zb8 a b) i=_
   unfold zah
   rw [if_pos (by simpa using hi1),zac hi1,Option.bind_some,zac hj1,Option.bind_some,zaN hi1 (by omega)]
   dsimp only
   rw [zBL (h _ (List.getElem_mem hi1)),Option.bind_some]
   cases eqT xs[i] ys[i]<;>rfl
  ·show zah xs ys (fun a b=>zb8 a b) xs.length=_
   unfold zah
   rw [if_neg (by simp)]
theorem zxf {s:zag} {t:zab} {x:zbB} (h:zdr t) (hx:zgZ t s.fName x):zbu s t=some x.fStage:=by
 unfold zbu zbr
 rw [zuz h,Option.bind_some,hx.at_,Option.bind_some,Option.bind_some]
theorem zDg {s:zag} (hS:ziY s): ∃g,zfR s=some g∧(g=true↔zmG s):=by
 unfold zfR
 rw [zhx,Option.bind_some]
 by_cases hb:inB s.fWays.length 1 4=true
 ·have h:=zbb.1 hb
  rw [if_pos hb,zhx,Option.bind_some]
  by_cases h2:inB s.fAt.length 1 3=true
  ·rw [if_pos h2,zC4 hS.store,Option.bind_some]
   by_cases h3:zc1 s.fStore=true
   ·rw [if_neg (by simp [h3]),zpQ (fun t=> !zm5 t s.fName) (fun t ht=>by unfold zgk;rw [zDJ (hS.way t ht),Option.bind_some]) (by omega),Option.bind_some]
    by_cases h4:(s.fWays.any fun t=> !zm5 t s.fName)=true
    ·rw [if_pos h4]
     refine⟨_,rfl,by simp,fun h5=> ?_⟩
     obtain⟨t,ht,hn⟩:=List.any_eq_true.1 h4
     rw [h5.2.2.1 t ht]at hn
     simp at hn
    ·have hA: ∀t∈s.fWays,zm5 t s.fName=true:=fun t ht=>by
      cases hq:zm5 t s.fName with
      |true=>rfl
      |false=>exact absurd (List.any_eq_true.2 ⟨t,ht,by simp [hq]⟩) h4
     have w:IntKind.i64.wrap ((s.fWays.length:Int)-1)=(s.fWays.length:Int)-1:=zaC (by omega) (by omega)
     have hat:=hS.at_
     rw [if_neg h4,zpQ (fun y=> !inB y 0 ((s.fWays.length:Int)-1)) (fun y hy=>by unfold zgI;rw [w,zhx,Option.bind_some]) (by omega),Option.bind_some]
     by_cases h5:(s.fAt.any fun y=> !inB y 0 ((s.fWays.length:Int)-1))=true
     ·rw [if_pos h5]
      refine⟨_,rfl,by simp,fun h6=> ?_⟩
      obtain⟨y,hy,hn⟩:=List.any_eq_true.1 h5
      rw [zbb.2 (h6.2.2.2.2.2.1 y hy)]at hn
      simp at hn
     ·have hB: ∀y∈s.fAt,0≤y∧y≤(s.fWays.length:Int)-1:=fun y hy=>by
       cases hq:inB y 0 ((s.fWays.length:Int)-1)with
       |true=>exact zbb.1 hq
       |false=>exact absurd (List.any_eq_true.2 ⟨y,hy,by simp [hq]⟩) h5
      obtain⟨e0,m0⟩:=zqE (s:=s) (by omega)
      obtain⟨e1,m1⟩:=zwA (s:=s) (by omega) (by omega)
      obtain⟨x,hx,sx,x0,x3,_⟩:=zpR (hA _ m0)
      obtain⟨y,hy,sy,y0,y3,_⟩:=zpR (hA _ m1)
      rw [if_neg h5,e0,Option.bind_some,e1,Option.bind_some,zxf (hS.way _ m1) hy,Option.bind_some,zD2 (hS.way _ m0) hx x0 x3 y0 y3,Option.bind_some]
      have hW:way (zdQ s) (zig (fun y:zbB=>y.fName==s.fName) (zdQ s).fIdxs) x.fStage y.fStage=ziE s:=by unfold ziE kOf;rw [sx,sy]
      rw [hW]
      obtain⟨r,er,fr⟩:=zyD (xs:=s.fWays) (ys:=ziE s) hS.way hS.ways
      rw [er,Option.bind_some]
      exact⟨_,rfl,fun hr=>⟨by omega,by omega,hA,fr.1 hr,h2,hB,h3⟩,fun h6=>fr.2 h6.2.2.2.1⟩
   ·rw [if_pos (by simp [h3])];exact⟨_,rfl,by simp,fun h5=>absurd h5.2.2.2.2.2.2 h3⟩
  ·rw [if_neg h2];exact⟨_,rfl,by simp,fun h5=>absurd h5.2.2.2.2.1 h2⟩
 ·rw [if_neg hb];exact⟨_,rfl,by simp,fun h5=>absurd (zbb.2 ⟨by have:=h5.1;omega,by have:=h5.2.1;omega⟩) hb⟩
def xOf (t:zab) (n:Str):zbB:=(t.fIdxs[(kOf t n).toNat]?).getD ⟨[],0,0⟩
theorem zEg {t:zab} {n:Str} {x:zbB} (h:zgZ t n x):xOf t n=x:=by
 unfold xOf kOf
 rw [(zsY h.at_).2.1];rfl
def zB2 (s:zag):List Int:=s.fAt.map fun y=>zrK ((zay s.fWays y).getD noT) s.fName
def zDh (s:zag):Bool:=holds (zdQ s) s.fName (xOf (zdQ s) s.fName) (zEM (zB2 s)) s.fStore
theorem zAO {s:zag} (hS:ziY s) (hg:zmG s):zfA s=some (zDh s)∧zcz s=some (zDh s):=by
 obtain⟨h1,h4,hA,_,h3,hB,hR⟩:=hg
 have h3:=zbb.1 h3
 obtain⟨e0,m0⟩:=zqE (s:=s) h1
 obtain⟨x,hx,k1,k2,k3⟩:=zCl (hA _ m0)
 have hT:=zDj hR
 have hW:=hS.store
 have hst: ∀y∈s.fAt,∃tb x,zay s.fWays y=some tb∧tb∈s.fWays∧zgZ tb s.fName x∧zrK tb s.fName=x.fStage:=fun y hy=>by
  obtain⟨tb,q1,q2,_⟩:=zoo (hB y hy).1 (by have:=(hB y hy).2;omega:y<s.fWays.length)
  obtain⟨x,q3,q4,_⟩:=zpR (hA tb q2)
  exact⟨tb,x,q1,q2,q3,q4⟩
 let st:List Int:=s.fAt.map fun y=>zrK ((zay s.fWays y).getD noT) s.fName
 have hn:st.length=s.fAt.length:=by simp [st]
 have hl:st.length≤2000000:=by have:=hS.at_;omega
 have n1:=zDx (s:=s) (st:=st) hn hl fun i hi=>by
  have hi':i<s.fAt.length:=by omega
  obtain⟨tb,x,q1,q2,q3,q4⟩:=hst _ (List.getElem_mem hi')
  refine⟨s.fAt[i],tb,_,x,zac hi',q1,zqf (hS.way _ q2),q3.at_, ?_⟩
  simp only [st,List.getElem_map,q1,Option.getD_some,q4]
 have n2:=zCS (s:=s) (st:=st) hn hl fun i hi=>by
  have hi':i<s.fAt.length:=by omega
  obtain⟨tb,x,q1,q2,q3,q4⟩:=hst _ (List.getElem_mem hi')
  refine⟨tb, ?_, ?_⟩
  ·unfold zaF
   rw [zac hi',Option.bind_some,q1,Option.bind_some]
  ·rw [zxf (hS.way _ q2) q3]
   simp only [st,List.getElem_map,q1,Option.getD_some,q4]
 unfold zfA zcz
 have S0:=hS.way _ m0
 have hnm:=hS.name
 have hask:zdk (zdQ s) s.fName s.fStore=some true:=by
  rw [zAI S0 hW];unfold zCN;rw [hA _ m0,hR];rfl
 rw [e0,Option.bind_some,Option.bind_some,n1,n2,Option.bind_some,Option.bind_some,zBK S0 (by omega) hnm hx hW.1 hT hask,zA5 S0 k1 hnm k3 hx hW.1 hT]
 unfold zDh
 rw [zEg hx]
 exact⟨rfl,rfl⟩
theorem zyJ {s:zag} (hS:ziY s) (hg:zmG s): ∃r,zfA s=some r∧zcz s=some r:=⟨_,zAO hS hg⟩
end Go.Proofs.YtgobcjbjogkpjaaGreatDoor
end
section
namespace Go.Proofs.YtgobcjbjogkpjaaGreatDoor
open Go.RowKit
abbrev bl (a b:List UInt8):Bool:=Op.bytesLess a b
theorem zi0: ∀a:List UInt8,bl a a=false
 | []=>rfl
 |x::a=>by
  have h: ¬x<x:=fun h=>by have:=UInt8.lt_iff_toNat_lt.1 h;omega
  show Op.bytesLess (x::a) (x::a)=false
  simp only [Op.bytesLess,h,decide_false,Bool.false_or,beq_self_eq_true,Bool.true_and]
  exact zi0 a
theorem zwf (x y:UInt8) (a b:List UInt8):bl (x::a) (y::b)=true↔x.toNat<y.toNat∨x=y∧bl a b=true:=by
 show Op.bytesLess (x::a) (y::b)=true↔_
 simp only [Op.bytesLess,Bool.or_eq_true,decide_eq_true_eq,Bool.and_eq_true,beq_iff_eq,UInt8.lt_iff_toNat_lt]
theorem zgr: ∀{a b c:List UInt8},bl a b=true→bl b c=true→bl a c=true
 | [],_, [],_,h=>by rename_i b _;cases b<;>cases h
 | [],_,_::_,_,_=>rfl
 |_::_, [],_,h,_=>by cases h
 |_::_,_::_, [],_,h=>by cases h
 |x::a,y::b,z::c,h1,h2=>by
  rw [zwf]at*
  rcases h1 with h1|⟨rfl,h1⟩<;>rcases h2 with h2|⟨rfl,h2⟩
  ·exact .inl (by omega)
  ·exact .inl h1
  ·exact .inl h2
  ·exact .inr ⟨rfl,zgr h1 h2⟩
theorem zCv: ∀a b:List UInt8,bl a b=true∨a=b∨bl b a=true
 | [], []=> .inr (.inl rfl)
 | [],_::_=> .inl rfl
 |_::_, []=> .inr (.inr rfl)
 |x::a,y::b=>by
  rw [zwf,zwf]
  rcases Nat.lt_trichotomy x.toNat y.toNat with h|h|h
  ·exact .inl (.inl h)
  ·have h0:x=y:=UInt8.toNat_inj.1 h
   subst h0
   rcases zCv a b with h1|h1|h1
   ·exact .inl (.inr ⟨rfl,h1⟩)
   ·exact .inr (.inl (by rw [h1]))
   ·exact .inr (.inr (.inr ⟨rfl,h1⟩))
  ·exact .inr (.inr (.inl h))
theorem zpo {a b:List UInt8} (h:bl a b=true):bl b a=false:=by
 cases h2:bl b a with
 |false=>rfl
 |true=>have:=zgr h h2;rw [zi0]at this;cases this
theorem zo4 {a b:List UInt8} (h:bl a b=true):a≠b:=by
 rintro rfl;rw [zi0]at h;cases h
theorem zlp {a b:List UInt8} (h:bl a b=false) (hn:a≠b):bl b a=true:=by
 rcases zCv a b with h1|h1|h1
 ·rw [h]at h1;cases h1
 ·exact absurd h1 hn
 ·exact h1
section
variable {α:Type} (key:α→List UInt8)
def zrl (l:List α):Prop:=l.Pairwise fun a b=>bl (key a) (key b)=true
def zmi (x:α):List α→List α
 | []=> [x]
 |y::l=>if bl (key x) (key y)=true then x::y::l else if key x=key y then x::l else y::zmi x l
variable {key}
theorem zrl.nodupKey {l:List α} (h:zrl key l) {a b:α} (ha:a∈l) (hb:b∈l) (e:key a=key b):a=b:=by
 induction l with
 |nil=>cases ha
 |cons y l ih=>
  have h1:=List.pairwise_cons.1 h
  rcases List.mem_cons.1 ha with q1|q1<;>rcases List.mem_cons.1 hb with q2|q2
  ·rw [q1,q2]
  ·exact absurd (q1▸e) (zo4 (h1.1 _ q2))
  ·exact absurd (q2▸e.symm) (zo4 (h1.1 _ q1))
  ·exact ih h1.2 q1 q2
theorem zt8 {x:α}: ∀{l:List α},zrl key l→ ∀y,y∈zmi key x l↔y=x∨y∈l∧key y≠key x
 | [],_,y=>by simp [zmi]
 |z::l,h,y=>by
  have h1:=List.pairwise_cons.1 h
  unfold zmi
  split
  ·rename_i hb
   constructor
   ·intro hy
    rcases List.mem_cons.1 hy with rfl|hy
    ·exact .inl rfl
    ·refine .inr ⟨hy, ?_⟩
     rcases List.mem_cons.1 hy with rfl|hy
     ·exact(zo4 hb).symm
     ·exact(zo4 (zgr hb (h1.1 _ hy))).symm
   ·rintro(rfl|⟨hy,_⟩)
    ·simp
    ·exact List.mem_cons_of_mem _ hy
  ·rename_i hb
   split
   ·rename_i he
    constructor
    ·intro hy
     rcases List.mem_cons.1 hy with rfl|hy
     ·exact .inl rfl
     ·exact .inr ⟨List.mem_cons_of_mem _ hy,fun e=>zo4 (h1.1 _ hy) (by rw [e,he])⟩
    ·rintro(rfl|⟨hy,hn⟩)
     ·simp
     ·rcases List.mem_cons.1 hy with rfl|hy
      ·exact absurd he.symm hn
      ·exact List.mem_cons_of_mem _ hy
   ·rename_i he
    rw [List.mem_cons,zt8 h1.2]
    constructor
    ·rintro(rfl|rfl|⟨hy,hn⟩)
     ·exact .inr ⟨by simp,fun e=>he e.symm⟩
     ·exact .inl rfl
     ·exact .inr ⟨List.mem_cons_of_mem _ hy,hn⟩
    ·rintro(rfl|⟨hy,hn⟩)
     ·exact .inr (.inl rfl)
     ·rcases List.mem_cons.1 hy with rfl|hy
      ·exact .inl rfl
      ·exact .inr (.inr ⟨hy,hn⟩)
theorem zuj {x:α}: ∀{l:List α},zrl key l→zrl key (zmi key x l)
 | [],_=>by simp [zmi,zrl]
 |z::l,h=>by
  have h1:=List.pairwise_cons.1 h
  unfold zmi
  split
  ·rename_i hb
   refine List.pairwise_cons.2 ⟨fun y hy=> ?_,h⟩
   rcases List.mem_cons.1 hy with rfl|hy
   ·exact hb
   ·exact zgr hb (h1.1 _ hy)
  ·rename_i hb
   split
   ·rename_i he
    exact List.pairwise_cons.2 ⟨fun y hy=>by rw [he];exact h1.1 _ hy,h1.2⟩
   ·rename_i he
    refine List.pairwise_cons.2 ⟨fun y hy=> ?_,zuj h1.2⟩
    rcases(zt8 h1.2 y).1 hy with rfl|⟨hy,_⟩
    ·exact zlp (by simpa using hb) he
    ·exact h1.1 _ hy
theorem zrl.ext: ∀{a b:List α},zrl key a→zrl key b→(∀x,x∈a↔x∈b)→a=b
 | [], [],_,_,_=>rfl
 | [],y::b,_,_,h=>absurd ((h y).2 (by simp)) (by simp)
 |x::a, [],_,_,h=>absurd ((h x).1 (by simp)) (by simp)
 |x::a,y::b,ha,hb,h=>by
  have h1:=List.pairwise_cons.1 ha
  have h2:=List.pairwise_cons.1 hb
  have e:x=y:=by
   rcases List.mem_cons.1 ((h x).1 (by simp))with e|hx
   ·exact e
   ·rcases List.mem_cons.1 ((h y).2 (by simp))with e|hy
    ·exact e.symm
    ·have:=zgr (h1.1 _ hy) (h2.1 _ hx)
     rw [zi0]at this;cases this
  subst e
  rw [zrl.ext h1.2 h2.2 fun z=> ?_]
  constructor
  ·intro hz
   rcases List.mem_cons.1 ((h z).1 (List.mem_cons_of_mem _ hz))with rfl|hz2
   ·have:=h1.1 _ hz;rw [zi0]at this;cases this
   ·exact hz2
  ·intro hz
   rcases List.mem_cons.1 ((h z).2 (List.mem_cons_of_mem _ hz))with rfl|hz2
   ·have:=h2.1 _ hz;rw [zi0]at this;cases this
   ·exact hz2
theorem zrl.filter {l:List α} (h:zrl key l) (p:α→Bool):zrl key (l.filter p):=List.Pairwise.filter p h
theorem zrl.sub {a b:List α} (h:zrl key b) (hs:a.Sublist b):zrl key a:=List.Pairwise.sublist hs h
theorem zxm {x:α}: ∀(l:List α),(zmi key x l).length≤l.length+1
 | []=>by simp [zmi]
 |y::l=>by
  unfold zmi
  have:=zxm (x:=x) l
  split
  ·simp
  ·split
   ·simp
   ·simp only [List.length_cons];omega
end
end Go.Proofs.YtgobcjbjogkpjaaGreatDoor
end
section
namespace Go.Proofs.YtgobcjbjogkpjaaGreatDoor
open Go.RowKit
set_option maxRecDepth 100000
def zjT {α:Type} (r:α→α→Bool):List α→Bool
 | []=>true
 | [_]=>true
 |x::y::l=>r x y&&zjT r (y::l)
theorem znn {α:Type} {r:α→α→Bool} (ht: ∀a b c,r a b=true→r b c=true→r a c=true): ∀{l:List α},zjT r l=true↔l.Pairwise fun a b=>r a b=true
 | []=>by simp [zjT]
 | [_]=>by simp [zjT]
 |x::y::l=>by
  rw [zjT,Bool.and_eq_true,znn ht]
  constructor
  ·rintro⟨h1,h2⟩
   refine List.pairwise_cons.2 ⟨fun z hz=> ?_,h2⟩
   rcases List.mem_cons.1 hz with rfl|hz
   ·exact h1
   ·exact ht _ _ _ h1 ((List.pairwise_cons.1 h2).1 z hz)
  ·intro h
   have h:=List.pairwise_cons.1 h
   exact⟨h.1 y (by simp),h.2⟩
theorem zwg {α:Type} {r:α→α→Bool} {l:List α} {q:Nat} (h:q+1<l.length):zjT r (l.drop q)=(r l[q] l[q+1]&&zjT r (l.drop (q+1))):=by
 rw [List.drop_eq_getElem_cons (show q<l.length by omega),List.drop_eq_getElem_cons h,zjT]
def ziq {α:Type} (lt:α→Bool) (l:List α):Nat:=(l.takeWhile lt).length
theorem zot {α:Type} (lt:α→Bool): ∀l:List α,ziq lt l≤l.length
 | []=>by simp [ziq]
 |x::l=>by
  have:=zot lt l
  unfold ziq at this ⊢
  rw [List.takeWhile_cons]
  split<;>simp<;>omega
theorem zwe {α:Type} {lt:α→Bool}: ∀{l:List α} {i:Nat} (h:i<ziq lt l),lt (l[i]'(Nat.lt_of_lt_of_le h (zot lt l)))=true
 |x::l,i,h=>by
  unfold ziq at h
  rw [List.takeWhile_cons]at h
  split at h
  ·rename_i hx
   cases i with
   |zero=>exact hx
   |succ i=>exact zwe (l:=l) (i:=i) (by unfold ziq;simpa using h)
  ·simp at h
theorem zzC {α:Type} {lt:α→Bool}: ∀{l:List α} (h:ziq lt l<l.length),lt l[ziq lt l]=false
 |x::l,h=>by
  by_cases hx:lt x=true
  ·have e:ziq lt (x::l)=ziq lt l+1:=by unfold ziq;rw [List.takeWhile_cons,if_pos hx];rfl
   have:=zzC (l:=l) (lt:=lt) (by rw [e]at h;simpa using h)
   simp only [e,List.getElem_cons_succ]
   exact this
  ·have e:ziq lt (x::l)=0:=by unfold ziq;rw [List.takeWhile_cons,if_neg hx];rfl
   simp only [e,List.getElem_cons_zero]
   simpa using hx
theorem zC5 {α β:Type} {xs:List α} {body:Int × Int→Option ((Int × Int) ⊕ Option β)} {fin:Int→Option β} (lt:α→Bool) (hm: ∀i j (hj:j<xs.length) (hi:i≤j),lt xs[j]=true→lt xs[i]=true)
  (hs: ∀i j:Nat,i<j→j≤xs.length→(h:(i+j)/2<xs.length)→body ((i:Int),(j:Int))=some (.inl (if lt xs[(i+j)/2]=true then((((i+j)/2+1:Nat):Int),(j:Int))else((i:Int),(((i+j)/2:Nat):Int)))))
  (he: ∀i:Nat,i≤xs.length→body ((i:Int),(i:Int))=some (.inr (fin i))):zal body (0,(xs.length:Int))=fin (ziq lt xs):=by
 have key: ∀n i j:Nat,j-i≤n→i≤ziq lt xs→ziq lt xs≤j→j≤xs.length→zal body ((i:Int),(j:Int))=fin (ziq lt xs):=by
  intro n
  induction n with
  |zero=>
   intro i j h1 h2 h3 h4
   have:i=j:=by omega
   subst this
   have:i=ziq lt xs:=by omega
   rw [zbc,he i h4,this]
  |succ n ih=>
   intro i j h1 h2 h3 h4
   by_cases hij:i=j
   ·subst hij
    have:i=ziq lt xs:=by omega
    rw [zbc,he i h4,this]
   ·have hlt:(i+j)/2<xs.length:=by omega
    rw [zbc,hs i j (by omega) h4 hlt]
    by_cases hc:lt xs[(i+j)/2]=true
    ·rw [if_pos hc]
     refine ih _ _ (by omega) ?_ h3 h4
     by_cases hp:(i+j)/2<ziq lt xs
     ·omega
     ·have h5:ziq lt xs<xs.length:=by omega
      have:=zzC h5
      rw [hm _ _ hlt (by omega) hc]at this
      cases this
    ·rw [if_neg hc]
     refine ih _ _ (by omega) h2 ?_ (by omega)
     by_cases hp:(i+j)/2<ziq lt xs
     ·exact absurd (zwe hp) hc
     ·omega
 exact key xs.length 0 xs.length (by omega) (by omega) (zot lt xs) (Nat.le_refl _)
theorem zwU {α:Type} {key:α→List UInt8} {x:α}: ∀{l:List α},zrl key l→zmi key x l=(match l[ziq (fun y=>bl (key y) (key x)) l]? with
  |some y=>if key y=key x then l.set (ziq (fun y=>bl (key y) (key x)) l) x else l.take (ziq (fun y=>bl (key y) (key x)) l)++ [x]++l.drop (ziq (fun y=>bl (key y) (key x)) l)
  |none=>l.take (ziq (fun y=>bl (key y) (key x)) l)++ [x]++l.drop (ziq (fun y=>bl (key y) (key x)) l))
 | [],_=>by simp [zmi,ziq]
 |y::l,h=>by
  have h1:=List.pairwise_cons.1 h
  unfold zmi
  by_cases hb:bl (key x) (key y)=true
  ·have e:ziq (fun z=>bl (key z) (key x)) (y::l)=0:=by unfold ziq;rw [List.takeWhile_cons,if_neg (by rw [zpo hb];simp)];rfl
   rw [if_pos hb,e]
   simp [(zo4 hb).symm]
  ·rw [if_neg hb]
   by_cases hk:key x=key y
   ·have e:ziq (fun z=>bl (key z) (key x)) (y::l)=0:=by unfold ziq;rw [List.takeWhile_cons,if_neg (by rw [hk,zi0];simp)];rfl
    rw [if_pos hk,e]
    simp [hk]
   ·have hyx:=zlp (by simpa using hb) hk
    have e:ziq (fun z=>bl (key z) (key x)) (y::l)=ziq (fun z=>bl (key z) (key x)) l+1:=by unfold ziq;rw [List.takeWhile_cons,if_pos hyx];rfl
    rw [if_neg hk,e,zwU h1.2]
    simp only [List.getElem?_cons_succ]
    split
    ·split<;>simp
    ·simp
end Go.Proofs.YtgobcjbjogkpjaaGreatDoor
end
section
namespace Go.Proofs.YtgobcjbjogkpjaaGreatDoor
open Go.RowKit
set_option maxRecDepth 100000
def zCM (a b:Str):Int:=if bl a b=true then-1 else if a=b then 0 else 1
@[simp] theorem zBB (a:Str):zdl a=some false:=by simp [zdl]
@[simp] theorem zFI (a b:Str):zdD a b=some (zCM a b):=by
 unfold zdD zCM
 simp only [zBB,Option.bind_some,Bool.false_eq_true,if_false]
 by_cases h:bl a b=true
 ·have:Op.bytesLess a b=true:=h
  simp [this]
 ·have h1:Op.bytesLess a b=false:=by simpa using h
  by_cases he:a=b
  ·subst he;simp [h1]
  ·simp [h1,he]
theorem zC2 {a b:Str}:decide (zCM a b<0)=bl a b:=by
 unfold zCM
 cases h:bl a b with
 |true=>simp
 |false=>by_cases he:a=b<;>simp [he]
theorem zDI {a b:Str}:(zCM a b==0)=decide (a=b):=by
 unfold zCM
 cases h:bl a b with
 |true=>simp [zo4 h]
 |false=>by_cases he:a=b<;>simp [he]
theorem zEH {i j:Nat} (h:i≤j) (hj:j≤2000000):IntKind.i64.wrap (Int.fdiv (IntKind.u64.wrap (IntKind.i64.wrap ((i:Int)+(j:Int)))) (2^(min ((1:Int)).toNat (IntKind.bits .u64))))=(((i+j)/2:Nat):Int):=by
 have e1:IntKind.i64.wrap ((i:Int)+(j:Int))=((i+j:Nat):Int):=by rw [zaC (by omega) (by omega)];simp
 have e2:IntKind.u64.wrap ((i+j:Nat):Int)=((i+j:Nat):Int):=by
  simp only [IntKind.wrap,IntKind.bits,IntKind.signed]
  simp
  omega
 have e3:(2:Int)^(min ((1:Int)).toNat (IntKind.bits .u64))=((2:Nat):Int):=rfl
 rw [e1,e2,e3,Int.fdiv_eq_ediv_of_nonneg _ (by omega),←Int.natCast_ediv,zaC (by omega) (by omega)]
theorem zDX {i:Nat} (h:i≤2000000):IntKind.i64.wrap ((i:Int)+1)=((i+1:Nat):Int):=by rw [zaC (by omega) (by omega)];simp
abbrev zlq (l:List zaa):Prop:=zrl (fun w:zaa=>w.fKey) l
abbrev zir (l:List zaa) (k:Str):Nat:=ziq (fun w:zaa=>bl w.fKey k) l
theorem zEN {l:List zaa} {k:Str} (hl:l.length≤2000000) (hr:zlq l):zb9 l k=some (((zir l k:Nat):Int),(match l[zir l k]? with|some w=>decide (w.fKey=k)|none=>false)):=by
 unfold zb9 zaw
 have hc: ∀w:zaa,zcM w k=some (zCM w.fKey k):=fun w=>by simp [zcM]
 have h:=zC5 (xs:=l) (body:=fun s:Int × Int=>zai l k (fun y0_ y1_=>zcM y0_ y1_) s.1 s.2) (fin:=fun i=>zat l k (fun y0_ y1_=>zcM y0_ y1_) i) (fun w:zaa=>bl w.fKey k)
  (fun i j hj hi h=>by
   rcases Nat.lt_or_ge i j with hij|hij
   ·exact zgr ((List.pairwise_iff_getElem.1 hr) i j (by omega) hj hij) h
   ·have:i=j:=by omega
    subst this;exact h)
  (fun i j hij hj hmid=>by
   show zai l k _ (i:Int) (j:Int)=_
   unfold zai
   rw [if_pos (by simpa using hij),zEH (by omega) (by omega),zac hmid,Option.bind_some]
   simp only [hc,Option.bind_some,zC2,zDX (show(i+j)/2≤2000000 by omega)]
   cases bl l[(i+j)/2].fKey k<;>rfl)
  (fun i hi=>by
   show zai l k _ (i:Int) (i:Int)=_
   unfold zai
   rw [if_neg (by simp)])
 rw [h]
 unfold zat
 show Option.bind (if decide (((zir l k:Nat):Int)<l.length)=true then _ else _) _=_
 by_cases hp:zir l k<l.length
 ·rw [if_pos (by simpa using hp),zac hp,Option.bind_some]
  simp only [hc,Option.bind_some,zDI,List.getElem?_eq_getElem hp]
 ·rw [if_neg (by simpa using hp),List.getElem?_eq_none (by omega)]
  rfl
theorem zom {l:List zaa} {w:zaa} (hl:l.length≤2000000) (hr:zlq l):zdn l w=some (zmi (fun w:zaa=>w.fKey) w l):=by
 unfold zdn
 rw [zEN hl hr,Option.bind_some,zwU hr]
 show(if(match l[zir l w.fKey]? with|some w'=>decide (w'.fKey=w.fKey)|none=>false)=true then _ else _)=_
 have hle:zir l w.fKey≤l.length:=zot _ _
 have hI:zps l ((zir l w.fKey:Nat):Int) [w]=some (l.take (zir l w.fKey)++ [w]++l.drop (zir l w.fKey)):=zad ⟨by omega,by omega,by simp,by simp only [List.length_singleton];omega⟩
 by_cases hp:zir l w.fKey<l.length
 ·rw [List.getElem?_eq_getElem hp]
  by_cases hk:(l[zir l w.fKey]).fKey=w.fKey
  ·simp only [hk,decide_true,if_true,zac hp,Option.bind_some]
   rfl
  ·simp only [hk,decide_false,Bool.false_eq_true,if_false]
   rw [hI];rfl
 ·rw [List.getElem?_eq_none (by omega)]
  simp only [Bool.false_eq_true,if_false]
  rw [hI];rfl
theorem zmN (ks:List Str):zmp ks=zjT bl ks:=by
 have key: ∀n q,q+n+1=ks.length→(List.range' (q+1) n).all (zfJ ks)=zjT bl (ks.drop q):=by
  intro n
  induction n with
  |zero=>
   intro q hq
   rw [List.drop_eq_getElem_cons (show q<ks.length by omega),List.drop_eq_nil_of_le (show ks.length≤q+1 by omega)]
   rfl
  |succ n ih=>
   intro q hq
   rw [List.range'_succ,List.all_cons,ih (q+1) (by omega),zwg (show q+1<ks.length by omega)]
   congr 1
   unfold zfJ
   have hb:(q+1==0)=false:=rfl
   rw [hb,Bool.false_or,Nat.add_sub_cancel,List.getElem?_eq_getElem (show q<ks.length by omega),List.getElem?_eq_getElem (show q+1<ks.length by omega)]
   rfl
 cases ks with
 |nil=>rfl
 |cons k l=>
  unfold zmp
  rw [List.length_cons,List.range_eq_range',List.range'_succ,List.all_cons]
  have:=key l.length 0 (by simp)
  rw [List.drop_zero]at this
  rw [Nat.zero_add]at this
  rw [show 0+1=1 from rfl,this]
  rfl
theorem zlV {α β:Type} (f:α→β) (r:β→β→Bool): ∀l:List α,zjT r (l.map f)=zjT (fun a b=>r (f a) (f b)) l
 | []=>rfl
 | [_]=>rfl
 |x::y::l=>by
  have:=zlV f r (y::l)
  simp only [List.map_cons,zjT]at this ⊢
  rw [this]
theorem zpO {l:List zaa} (h:zd1 l=true):zlq l:=by
 unfold zd1 at h
 simp only [Bool.and_eq_true]at h
 have h1:=h.2.2
 rw [zmN,zlV]at h1
 exact(znn (r:=fun a b:zaa=>bl a.fKey b.fKey) fun a b c p q=>zgr p q).1 h1
end Go.Proofs.YtgobcjbjogkpjaaGreatDoor
end
section
namespace Go.Proofs.YtgobcjbjogkpjaaGreatDoor
open Go.RowKit
set_option maxRecDepth 100000
theorem zBk {t:zab} (h:zar t=true):zrl (fun x:zbB=>x.fName) t.fIdxs:=by
 unfold zar at h
 simp only [Bool.and_eq_true]at h
 have h1:=h.2
 have h2:zmp (t.fIdxs.map (·.fName))=true:=by
  unfold zmp
  rw [List.length_map,List.all_eq_true]
  intro i hi
  have h3:=List.all_eq_true.1 h1 i hi
  unfold znP at h3
  simp only [Bool.and_eq_true]at h3
  have hi':i<t.fIdxs.length:=List.mem_range.1 hi
  have e: ∀j:Nat,(((t.fIdxs.map (·.fName))[j]?).getD [])=((t.fIdxs[j]?).getD ⟨[],0,0⟩).fName:=by
   intro j
   rw [List.getElem?_map]
   cases t.fIdxs[j]?<;>rfl
  unfold zfJ
  rw [e,e]
  exact h3.2
 rw [zmN,zlV]at h2
 exact(znn (r:=fun a b:zbB=>bl a.fName b.fName) fun a b c p q=>zgr p q).1 h2
theorem zwH {t:zab} {x:zbB} (h:zar t=true) (hx:x∈t.fIdxs):zgZ t x.fName x:=by
 have h1:zig (fun y:zbB=>y.fName==x.fName) t.fIdxs≥0:=by
  have:=zlJ (fun y:zbB=>y.fName==x.fName) t.fIdxs
  rw [show(t.fIdxs.any fun y=>y.fName==x.fName)=true from List.any_eq_true.2 ⟨x,hx,by simp⟩]at this
  exact of_decide_eq_true this
 obtain⟨y,h2,h3,h4⟩:=zwy h1
 have h5:y=x:=(zBk h).nodupKey h4 hx (by simpa using h3)
 subst h5
 have h6:=zbb.1 (ztj h hx).2
 exact⟨h2,rfl,h6.1,h6.2⟩
theorem zkp {t:zab} (h:zar t=true):2≤t.fCols.length∧t.fCols.length≤4∧t.fIdxs.length≤3:=by
 unfold zar at h
 simp only [Bool.and_eq_true,decide_eq_true_eq]at h
 have h1:=zbb.1 h.1.1.2.2
 have h2:=h.1.2
 omega
theorem zoB {t:zab} {r:zdG} (hs:Small r.fVals) (h:zbp t r=true):zub t r:=by
 unfold zbp at h
 simp only [Bool.and_eq_true,beq_iff_eq]at h
 exact⟨by have:=h.1;omega,hs⟩
theorem zte {t:zab} {r:zdG} (hc:1≤t.fCols.length) (h:zub t r):zay r.fVals 0=some (zj0 r 0):=(zpY h (by omega) (by omega)).1
theorem zqF {t:zab} {r:zdG} (hc:1≤t.fCols.length) (h:zub t r):r.fVals≠ []:=by
 intro e
 have:=h.len
 rw [e]at this
 simp at this
 omega
def zj3 (a:zaz):Prop:=Small a.fOld.fVals∧Small a.fNew.fVals
def zi9 (t:zab) (a:zaz):Bool:=
 if a.fKind=1 then(a.fOld.fVals.length:Int)==0&&zbp t a.fNew else
 if a.fKind=2 then zbp t a.fOld&&(a.fNew.fVals.length:Int)==0 else
 if a.fKind=3 then zbp t a.fOld&&(zbp t a.fNew&&zj0 a.fOld 0==zj0 a.fNew 0)else false
theorem zsp {t:zab} {a:zaz} (hc:1≤t.fCols.length) (h:zj3 a):zfB t a=some (zi9 t a):=by
 unfold zfB zi9
 by_cases h1:a.fKind=1
 ·rw [if_pos (by simpa using h1),if_pos h1,zkf h.2,Option.bind_some]
  cases((a.fOld.fVals.length:Int)==0)<;>simp
 rw [if_neg (by simpa using h1),if_neg h1]
 by_cases h2:a.fKind=2
 ·rw [if_pos (by simpa using h2),if_pos h2,zkf h.1,Option.bind_some]
  cases((a.fNew.fVals.length:Int)==0)<;>simp
 rw [if_neg (by simpa using h2),if_neg h2]
 by_cases h3:a.fKind=3
 ·rw [if_pos (by simpa using h3),if_pos h3,zkf h.1,zkf h.2,Option.bind_some,Option.bind_some]
  cases e1:zbp t a.fOld with
  |false=>simp
  |true=>
   cases e2:zbp t a.fNew with
   |false=>simp
   |true=>simp [zte hc (zoB h.1 e1),zte hc (zoB h.2 e2)]
 rw [if_neg (by simpa using h3),if_neg h3]
theorem zxr {t:zab} {a:zaz} (hc:1≤t.fCols.length) (h:zj3 a):zcZ t a=some (zi9 t a):=by
 unfold zcZ zi9
 by_cases h1:a.fKind=1
 ·rw [if_pos (by simpa using h1),if_pos h1,zjX h.2,Option.bind_some]
  cases((a.fOld.fVals.length:Int)==0)<;>simp
 rw [if_neg (by simpa using h1),if_neg h1]
 by_cases h2:a.fKind=2
 ·rw [if_pos (by simpa using h2),if_pos h2,zjX h.1,Option.bind_some]
 rw [if_neg (by simpa using h2),if_neg h2]
 by_cases h3:a.fKind=3
 ·rw [if_pos (by simpa using h3),if_pos h3,zjX h.1,zjX h.2,Option.bind_some,Option.bind_some]
  cases e1:zbp t a.fOld with
  |false=>simp
  |true=>
   cases e2:zbp t a.fNew with
   |false=>simp
   |true=>simp [zte hc (zoB h.1 e1),zte hc (zoB h.2 e2)]
 rw [if_neg (by simpa using h3),if_neg h3]
structure zAe (t:zab) (a:zaz):Prop where
 old:a.fKind≠1→zub t a.fOld
 new:a.fKind≠2→zub t a.fNew
 kind:a.fKind=1∨a.fKind=2∨a.fKind=3
 same:a.fKind=3→zj0 a.fOld 0=zj0 a.fNew 0
theorem zEm {t:zab} {a:zaz} (h:zj3 a) (hg:zi9 t a=true):zAe t a:=by
 unfold zi9 at hg
 by_cases h1:a.fKind=1
 ·rw [if_pos h1,Bool.and_eq_true]at hg
  exact⟨fun k=>absurd h1 k,fun _=>zoB h.2 hg.2, .inl h1,fun k=>by omega⟩
 rw [if_neg h1]at hg
 by_cases h2:a.fKind=2
 ·rw [if_pos h2,Bool.and_eq_true]at hg
  exact⟨fun _=>zoB h.1 hg.1,fun k=>absurd h2 k, .inr (.inl h2),fun k=>by omega⟩
 rw [if_neg h2]at hg
 by_cases h3:a.fKind=3
 ·rw [if_pos h3,Bool.and_eq_true,Bool.and_eq_true,beq_iff_eq]at hg
  exact⟨fun _=>zoB h.1 hg.1,fun _=>zoB h.2 hg.2.1, .inr (.inr h3),fun _=>hg.2.2⟩
 rw [if_neg h3]at hg
 cases hg
def zBX (t:zab) (a:zaz) (x:zbB):Str:=if a.fKind=1 then []else zk6 t x.fName x.fCol a.fOld
def zAv (t:zab) (a:zaz) (x:zbB):Str:=if a.fKind=2 then []else zk6 t x.fName x.fCol a.fNew
def zoF (k n:Str) (x:zbB):List DOp:=if k≠ []∧k≠n∧x.fStage≥1 then [⟨3,k, [],0⟩]else []
def zrz (n:Str) (x:zbB):List DOp:=if n≠ []∧x.fStage≥2 then [⟨2,n, [],0⟩]else []
def zoC (t:zab) (a:zaz) (x:zbB):List DOp:=zoF (zBX t a x) (zAv t a x) x++zrz (zAv t a x) x
def zkQ (t:zab) (a:zaz):List DOp:=
 if a.fKind=1 then [⟨6,(zk0 t a.fNew).fKey, [],0⟩,⟨2,(zk0 t a.fNew).fKey,(zk0 t a.fNew).fVal,0⟩]else
 if a.fKind=2 then [⟨7,(zk0 t a.fOld).fKey,(zk0 t a.fOld).fVal,0⟩,⟨3,(zk0 t a.fOld).fKey, [],0⟩]else
 [⟨7,(zk0 t a.fOld).fKey,(zk0 t a.fOld).fVal,0⟩,⟨2,(zk0 t a.fOld).fKey,(zk0 t a.fNew).fVal,0⟩]
def ztd (t:zab) (a:zaz):List DOp:=t.fIdxs.foldl (fun o x=>o++zoC t a x) (zkQ t a)
theorem zBC (k n:Str) (x:zbB):(zoF k n x).length≤1:=by unfold zoF;split<;>simp
theorem zDe (n:Str) (x:zbB):(zrz n x).length≤1:=by unfold zrz;split<;>simp
theorem zow (t:zab) (a:zaz) (x:zbB):(zoC t a x).length≤2:=by
 unfold zoC
 have:=zBC (zBX t a x) (zAv t a x) x
 have:=zDe (zAv t a x) x
 rw [List.length_append];omega
theorem zmH (t:zab) (a:zaz):(zkQ t a).length=2:=by unfold zkQ;split<;>(try split)<;>rfl
theorem zsX {o p:List DOp} (h:o.length≤5000000) (hn:p.length≤5000000):((o.length:Int)+(p.length:Int))*48≤140737488355328∧(o.length:Int)+(p.length:Int)≤140737488355328:=by omega
theorem zzZ {t:zab} {a:zaz} {x:zbB} (ht:t.fName.length≤2000000) (hn:x.fName.length≤2000000) (hx:zgZ t x.fName x) (ha:zAe t a):zgs t x a=some (zoC t a x):=by
 have e1:zgs t x a=zfP t x a (zBX t a x):=by
  unfold zgs zBX
  by_cases h1:a.fKind=1
  ·rw [if_neg (by simp [h1]),if_pos h1];rfl
  ·rw [if_pos (by simpa using h1),if_neg h1,ztC ht hn hx (ha.old h1)];rfl
 have e2: ∀k,zfP t x a k=zez x k (zAv t a x):=by
  intro k
  unfold zfP zAv
  by_cases h1:a.fKind=2
  ·rw [if_neg (by simp [h1]),if_pos h1]
  ·rw [if_pos (by simpa using h1),if_neg h1,ztC ht hn hx (ha.new h1)];rfl
 have e3: ∀(n:Str) (o:List DOp),o.length≤5→zfS x n o=some (o++zrz n x):=by
  intro n o ho
  unfold zfS zrz
  by_cases h1:n≠ []∧x.fStage≥2
  ·rw [if_pos (by simpa using h1),if_pos h1,zad (zsX (by omega) (by simp))]
  ·rw [if_neg (by simpa using h1),if_neg h1,List.append_nil]
 have e4: ∀(k n:Str),zez x k n=some (zoF k n x++zrz n x):=by
  intro k n
  unfold zez zoF
  by_cases h1:k≠ []∧k≠n∧x.fStage≥1
  ·rw [if_pos (by simpa [and_assoc]using h1),if_pos h1,zad (zsX (by simp) (by simp)),e3 _ _ (by simp)]
  ·rw [if_neg (by simpa [and_assoc]using h1),if_neg h1,e3 _ _ (by simp)]
 rw [e1,e2,e4];rfl
theorem zxE {t:zab} {a:zaz} (hc:1≤t.fCols.length) (ht:t.fName.length≤2000000) (ha:zAe t a):zhv t a=some (zkQ t a):=by
 unfold zhv zkQ
 by_cases h1:a.fKind=1
 ·have hr:=ha.new (by omega)
  rw [if_pos (by simpa using h1),if_pos h1,ztZ ht hr.small (zqF hc hr)];rfl
 have hr:=ha.old h1
 rw [if_neg (by simpa using h1),if_neg h1,ztZ ht hr.small (zqF hc hr),Option.bind_some]
 by_cases h2:a.fKind=2
 ·rw [if_pos (by simpa using h2),if_pos h2]
 have hr:=ha.new h2
 rw [if_neg (by simpa using h2),if_neg h2,ztZ ht hr.small (zqF hc hr)];rfl
theorem zED {t:zab} {a:zaz} (hS:zdr t) (hg:zar t=true) (ha:zAe t a):ziF t a=some (ztd t a):=by
 have hc:=zkp hg
 unfold ziF
 rw [zxE (by omega) hS.name ha,Option.bind_some]
 have hl:=zmH t a
 exact(zbN (xs:=t.fIdxs) (body:=fun s:Int × List DOp=>zdx t a s.1 s.2) (fun i (o:List DOp)=>(i,o)) (fun o x=>o++zoC t a x) (fun o=>some o) (fun i o=>o.length≤2+2*i)
  (fun i hi o hI=>by
   have hI:o.length≤2+2*i:=hI
   have hw:=zaN hi (by omega)
   have hk:=zow t a t.fIdxs[i]
   have hm:=List.getElem_mem hi
   refine⟨?_,by show List.length _≤_;rw [List.length_append];omega⟩
   show zdx t a i o=_
   unfold zdx
   rw [if_pos (by simpa using hi),zac hi,Option.bind_some,zzZ hS.name (hS.idx _ hm) (zwH hg hm) ha,Option.bind_some,zad (zsX (by omega) (by omega)),hw])
  (fun o _=>by
   show zdx t a t.fIdxs.length o=_
   unfold zdx
   rw [if_neg (by simp)]) (s:=zkQ t a) (by omega)).1
theorem zvv {k:Int} {w:zaa} {o:List DOp} (h:o.length≤5000000):zav k w o=some ((),o++ [⟨k,w.fKey,w.fVal,0⟩]):=by
 unfold zav
 rw [zad (zsX h (by simp))]
theorem zEb {t:zab} {a:zaz} (hS:zdr t) (hg:zar t=true) (ha:zAe t a):zdI t a=some (ztd t a):=by
 have hc:=zkp hg
 have hl:=zmH t a
 have h7: ∀(i:Int) (x:zbB) (n:Str) (o:List DOp),o.length≤100→zba i x n o=some (.inl (IntKind.i64.wrap (i+1),o++zrz n x)):=by
  intro i x n o ho
  unfold zba zrz zjy
  by_cases h1:n= []
  ·rw [if_neg (by simp [h1]),if_neg (by simp [h1]),List.append_nil]
  rw [if_pos (by simpa using h1),Option.bind_some]
  by_cases h2:x.fStage≥2
  ·rw [if_pos (by simpa using h2),if_pos ⟨h1,h2⟩,zvv (by omega)];rfl
  ·rw [if_neg (by simpa using h2),if_neg (fun h=>h2 h.2),List.append_nil]
 have h6: ∀(i:Int) (x:zbB) (k n:Str) (o:List DOp),o.length≤99→zaW i o x k n=some (.inl (IntKind.i64.wrap (i+1),o++(zoF k n x++zrz n x))):=by
  intro i x k n o ho
  unfold zaW zoF zjK
  by_cases h1:k= []
  ·rw [if_neg (by simp [h1]),if_neg (by simp [h1]),h7 _ _ _ _ (by omega)];rfl
  rw [if_pos (by simpa using h1)]
  by_cases h2:k=n
  ·rw [if_neg (by simp [h2]),if_neg (by simp [h2]),h7 _ _ _ _ (by omega)];rfl
  rw [if_pos (by simpa using h2),Option.bind_some]
  by_cases h3:x.fStage≥1
  ·rw [if_pos (by simpa using h3),if_pos ⟨h1,h2,h3⟩,zvv (by omega),Option.bind_some,h7 _ _ _ _ (by rw [List.length_append,List.length_singleton];omega),List.append_assoc]
  ·rw [if_neg (by simpa using h3),if_neg (fun h=>h3 h.2.2),h7 _ _ _ _ (by omega)];rfl
 have hloop: ∀o:List DOp,o.length=2→za9 t a o=some (t.fIdxs.foldl (fun o x=>o++zoC t a x) o):=by
  intro o ho
  unfold za9
  exact(zbN (xs:=t.fIdxs) (body:=fun s:Int × List DOp=>za8 t a s.1 s.2) (fun i (o:List DOp)=>(i,o)) (fun o x=>o++zoC t a x) (fun o=>some o) (fun i o=>o.length≤2+2*i)
   (fun i hi o hI=>by
    have hI:o.length≤2+2*i:=hI
    have hw:=zaN hi (by omega)
    have hk:=zow t a t.fIdxs[i]
    have hm:=List.getElem_mem hi
    have hx:=zwH hg hm
    refine⟨?_,by show List.length _≤_;rw [List.length_append];omega⟩
    show za8 t a i o=_
    unfold za8
    rw [if_pos (by simpa using hi),zac hi,Option.bind_some]
    have e1:(if(a.fKind !=1)=true then(zaZ t t.fIdxs[i].fName a.fOld).bind fun v20=>some (Sum.inl v20)else some (Sum.inl ([]:List UInt8)):Option (List UInt8 ⊕ Option ((Int × List DOp) ⊕ Option (List DOp))))=some (.inl (zBX t a t.fIdxs[i])):=by
     unfold zBX
     by_cases h1:a.fKind=1
     ·rw [if_neg (by simp [h1]),if_pos h1]
     ·rw [if_pos (by simpa using h1),if_neg h1,ztN hS (hS.idx _ hm) hx (ha.old h1)];rfl
    rw [e1]
    show zee t a i o t.fIdxs[i] (zBX t a t.fIdxs[i])=_
    unfold zee
    have e2: ∀k,(if(a.fKind !=2)=true then(zaZ t t.fIdxs[i].fName a.fNew).bind fun v19=>zaW i o t.fIdxs[i] k v19 else zaW i o t.fIdxs[i] k ([]:List UInt8))=zaW i o t.fIdxs[i] k (zAv t a t.fIdxs[i]):=by
     intro k
     unfold zAv
     by_cases h1:a.fKind=2
     ·rw [if_neg (by simp [h1]),if_pos h1]
     ·rw [if_pos (by simpa using h1),if_neg h1,ztN hS (hS.idx _ hm) hx (ha.new h1)];rfl
    rw [e2,h6 _ _ _ _ _ (by omega),hw]
    rfl)
   (fun o _=>by
    show za8 t a t.fIdxs.length o=_
    unfold za8
    rw [if_neg (by simp)]) (s:=o) (by omega)).1
 have hn:t.fName.length≤2000000:=hS.name
 unfold zdI ztd zkQ
 rcases ha.kind with h1|h1|h1
 ·have hr:=ha.new (by omega)
  rw [if_neg (by simp [h1]),if_pos h1]
  show zaV t a [] [] false []=_
  unfold zaV
  rw [if_pos (by simp [h1]),zpX hn hr.small (zqF (by omega) hr),Option.bind_some]
  unfold zbP
  rw [if_pos (by simp [h1]),zvv (by simp),Option.bind_some,zvv (by simp),Option.bind_some,hloop _ (by simp)]
  rfl
 ·have hr:=ha.old (by omega)
  rw [if_pos (by simp [h1]),if_neg (by omega),if_pos h1,zpX hn hr.small (zqF (by omega) hr),Option.bind_some,zvv (by simp),Option.bind_some]
  show zaV t a (zk0 t a.fOld).fKey (zk0 t a.fOld).fVal (zk0 t a.fOld).fGone _=_
  unfold zaV
  rw [if_neg (by simp [h1])]
  unfold zbP
  rw [if_neg (by simp [h1]),if_pos (by simp [h1]),zvv (by simp),Option.bind_some,hloop _ (by simp)]
  rfl
 ·have hr:=ha.old (by omega)
  have hr2:=ha.new (by omega)
  have hk:(zk0 t a.fOld).fKey=(zk0 t a.fNew).fKey:=by
   have:=ha.same h1
   unfold zj0 at this
   unfold zk0
   rw [List.head?_eq_getElem?,List.head?_eq_getElem?]
   exact congrArg (fun z=>t.fName++ [47]++z) this
  rw [if_pos (by simp [h1]),if_neg (by omega),if_neg (by omega),zpX hn hr.small (zqF (by omega) hr),Option.bind_some,zvv (by simp),Option.bind_some]
  show zaV t a (zk0 t a.fOld).fKey (zk0 t a.fOld).fVal (zk0 t a.fOld).fGone _=_
  unfold zaV
  rw [if_pos (by simp [h1]),zpX hn hr2.small (zqF (by omega) hr2),Option.bind_some]
  unfold zbP
  rw [if_neg (by simp [h1]),if_neg (by simp [h1]),if_pos (by simp [h1]),zvv (by simp),Option.bind_some,hloop _ (by simp),hk]
  rfl
end Go.Proofs.YtgobcjbjogkpjaaGreatDoor
end
section
namespace Go.Proofs.YtgobcjbjogkpjaaGreatDoor
open Go.RowKit
set_option maxRecDepth 100000
abbrev wk (w:zaa):Str:=w.fKey
theorem znA {α β:Type} {xs:List α} {body:Int→Option (Int ⊕ Option β)} (p:α→Bool) (hit:α→Option β) (fin:Option β)
  (hs: ∀(i:Nat) (hi:i<xs.length),body i=some (if p xs[i]=true then .inr (hit xs[i])else .inl ((i+1:Nat):Int))) (he:body xs.length=some (.inr fin)):
  zal body 0=match xs.find? p with|some x=>hit x|none=>fin:=by
 have key: ∀n q,q+n=xs.length→zal body (q:Nat)=match(xs.drop q).find? p with|some x=>hit x|none=>fin:=by
  intro n
  induction n with
  |zero=>
   intro q hq
   have:q=xs.length:=by omega
   subst this
   rw [List.drop_length]
   exact zbR he
  |succ n ih=>
   intro q hq
   have hlt:q<xs.length:=by omega
   rw [List.drop_eq_getElem_cons hlt,List.find?_cons]
   have h1:=hs q hlt
   cases hp:p xs[q]with
   |true=>
    rw [hp,if_pos rfl]at h1
    exact zbR h1
   |false=>
    rw [hp,if_neg (by simp)]at h1
    rw [zcf h1]
    exact ih (q+1) (by omega)
 have:=key xs.length 0 (by omega)
 rw [List.drop_zero]at this
 exact this
def zxZ (got:List zg0) (k:Str):Str × Bool × Bool:=match got.find? (fun g=>g.fKey==k)with|some g=>(g.fVal,g.fThere,true)|none=>([],false,false)
def zds (ws:List zaa) (got:List zg0) (k:Str):Str × Bool × Bool:=match ws.find? (fun w=>w.fKey==k)with|some w=>(w.fVal, !w.fGone,true)|none=>zxZ got k
def zkb (rows:List zaa) (k:Str):zg0:=match rows.find? (fun w=>w.fKey==k)with|some w=>⟨k,w.fVal,true⟩|none=>⟨k, [],false⟩
theorem zp6 {ws:List zaa} {got:List zg0} {k:Str} (hw:ws.length≤2000000) (hg:got.length≤2000000):zgw ws got k=some (zds ws got k):=by
 have h2:ze1 got k=some (zxZ got k):=by
  unfold ze1 zxZ
  rw [znA (xs:=got) (body:=fun s:Int=>zcN got k s) (fun g=>g.fKey==k) (fun g=>some (g.fVal,g.fThere,true)) (some ([],false,false)) (fun i hi=>by
   show zcN got k i=_
   unfold zcN
   rw [if_pos (by simpa using hi),zac hi,Option.bind_some,zaN hi (by omega)]
   split<;>rfl) (by
   show zcN got k got.length=_
   unfold zcN
   rw [if_neg (by simp)])]
  cases got.find? (fun g=>g.fKey==k)<;>rfl
 unfold zgw zds
 rw [znA (xs:=ws) (body:=fun s:Int=>zcH ws got k s) (fun w=>w.fKey==k) (fun w=>some (w.fVal, !w.fGone,true)) (ze1 got k) (fun i hi=>by
  show zcH ws got k i=_
  unfold zcH
  rw [if_pos (by simpa using hi),zac hi,Option.bind_some,zaN hi (by omega)]
  split<;>rfl) (by
  show zcH ws got k ws.length=_
  unfold zcH
  rw [if_neg (by simp)]),h2]
 cases ws.find? (fun w=>w.fKey==k)<;>rfl
theorem zCQ {rows:List zaa} {k:Str} (hw:rows.length≤2000000):ziD rows k=some (zkb rows k):=by
 unfold ziD zkb
 rw [znA (xs:=rows) (body:=fun s:Int=>zdv rows k s) (fun w=>w.fKey==k) (fun w=>some ⟨k,w.fVal,true⟩) (zkT k) (fun i hi=>by
  show zdv rows k i=_
  unfold zdv
  rw [if_pos (by simpa using hi),zac hi,Option.bind_some,zaN hi (by omega)]
  split<;>rfl) (by
  show zdv rows k rows.length=_
  unfold zdv
  rw [if_neg (by simp)])]
 cases rows.find? (fun w=>w.fKey==k)<;>rfl
theorem znf {α:Type} (lt:α→Bool) (x:α) (l:List α):ziq lt (x::l)=if lt x=true then ziq lt l+1 else 0:=by
 unfold ziq
 rw [List.takeWhile_cons]
 split<;>rfl
theorem zpz {x:zaa} {l:List zaa} (h:zlq (x::l)):(∀y∈l,bl x.fKey y.fKey=true)∧zlq l:=by
 unfold zlq zrl at h
 rw [List.pairwise_cons]at h
 exact h
theorem zzx {l:List zaa} {k:Str} (h: ∀y∈l,bl k y.fKey=true):l.find? (fun w=>w.fKey==k)=none:=by
 rw [List.find?_eq_none]
 intro y hy
 have:=zo4 (h y hy)
 simpa using fun e=>this e.symm
theorem zse {k:Str}: ∀{l:List zaa},zlq l→l.find? (fun w=>w.fKey==k)=match l[zir l k]? with|some w=>if w.fKey=k then some w else none|none=>none
 | [],_=>by simp
 |x::l,h=>by
  obtain⟨h1,h2⟩:=zpz h
  have ih:=zse (k:=k) h2
  rw [zir,znf,List.find?_cons]
  by_cases hb:bl x.fKey k=true
  ·have hne:(x.fKey==k)=false:=by simpa using zo4 hb
   rw [if_pos hb,hne,List.getElem?_cons_succ]
   exact ih
  ·rw [if_neg hb,List.getElem?_cons_zero]
   by_cases he:x.fKey=k
   ·rw [show(x.fKey==k)=true by simpa using he];simp [he]
   ·rw [show(x.fKey==k)=false by simpa using he]
    simp only [he,if_false]
    have hk:bl k x.fKey=true:=zlp (by simpa using hb) he
    exact zzx fun y hy=>zgr hk (h1 y hy)
theorem zzJ {l:List zaa} {k:Str} (hl:l.length≤2000000) (hr:zlq l): ∃i:Int,(zb9 l k=some (i,true)∧ ∃w,zay l i=some w∧l.find? (fun w=>w.fKey==k)=some w)∨(zb9 l k=some (i,false)∧l.find? (fun w=>w.fKey==k)=none):=by
 refine⟨(zir l k:Nat), ?_⟩
 rw [zEN hl hr,zse hr]
 by_cases hp:zir l k<l.length
 ·rw [List.getElem?_eq_getElem hp]
  by_cases hk:(l[zir l k]).fKey=k
  ·left
   simp only [hk,decide_true,if_true]
   exact⟨trivial,_,zac hp,rfl⟩
  ·right
   simp only [hk,decide_false,if_false]
   exact⟨trivial,trivial⟩
 ·rw [List.getElem?_eq_none (by omega)]
  right
  exact⟨rfl,rfl⟩
theorem zxw {ws:List zaa} {got:List zg0} {k:Str} (hw:ws.length≤2000000) (hg:got.length≤2000000) (hr:zlq ws):zhq k ws got=some (zds ws got k):=by
 unfold zhq zds
 obtain⟨i,⟨e,w,e2,e3⟩|⟨e,e3⟩⟩:=zzJ (k:=k) hw hr
 ·rw [e,e3,Option.bind_some,if_pos rfl,e2];rfl
 ·rw [e,e3,Option.bind_some,if_neg (by simp)]
  unfold zxZ
  rw [znA (xs:=got) (body:=fun s:Int=>zdc k got s) (fun g=>g.fKey==k) (fun g=>some (g.fVal,g.fThere,true)) (some ([],false,false)) (fun i hi=>by
   show zdc k got i=_
   unfold zdc
   rw [if_pos (by simpa using hi),zac hi,Option.bind_some,zaN hi (by omega)]
   split<;>rfl) (by
   show zdc k got got.length=_
   unfold zdc
   rw [if_neg (by simp)])]
  cases got.find? (fun g=>g.fKey==k)<;>rfl
theorem zAP {rows:List zaa} {k:Str} (hw:rows.length≤2000000) (hr:zlq rows):zjq rows k=some (zkb rows k):=by
 unfold zjq zkb
 obtain⟨i,⟨e,w,e2,e3⟩|⟨e,e3⟩⟩:=zzJ (k:=k) hw hr
 ·rw [e,e3,Option.bind_some,if_neg (by simp),e2];rfl
 ·rw [e,e3,Option.bind_some,if_pos (by simp)]
def leW (k:Str) (w:zaa):Bool:=bl w.fKey k||w.fKey==k
def zB9 (l:List zaa) (w:zaa) (q:Nat):List zaa:=
 match(if q=0 then none else l[q-1]?)with
 |some y=>if y.fKey=w.fKey then l.set (q-1) w else l.take q++ [w]++l.drop q
 |none=>l.take q++ [w]++l.drop q
theorem zyv {w:Str} {l:List zaa} (h: ∀y∈l,bl w y.fKey=true):ziq (leW w) l=0:=by
 cases l with
 |nil=>rfl
 |cons y l=>
  rw [znf,if_neg]
  have h1:=h y (by simp)
  have h2:=zpo h1
  have h3:=zo4 h1
  unfold leW
  rw [h2]
  simpa using fun e=>h3 e.symm
theorem zw0 {w:zaa}: ∀{l:List zaa},zlq l→zB9 l w (ziq (leW w.fKey) l)=zmi wk w l
 | [],_=>by simp [zB9,zmi,ziq]
 |x::l,h=>by
  obtain⟨h1,h2⟩:=zpz h
  have ih:=zw0 (w:=w) h2
  rw [znf,zmi]
  by_cases ha:bl (wk w) (wk x)=true
  ·have hl:leW w.fKey x=false:=by
    have h3:=zpo ha
    have h4:=zo4 ha
    unfold leW
    rw [h3]
    simpa using fun e=>h4 e.symm
   rw [if_pos ha,hl,if_neg (by simp)]
   simp [zB9]
  rw [if_neg ha]
  by_cases he:wk w=wk x
  ·have hl:leW w.fKey x=true:=by unfold leW;rw [show(x.fKey==w.fKey)=true by simpa using he.symm];simp
   have hz:ziq (leW w.fKey) l=0:=zyv fun y hy=>by rw [show w.fKey=x.fKey from he];exact h1 y hy
   rw [if_pos he,hl,if_pos rfl,hz]
   simp [zB9,show x.fKey=w.fKey from he.symm]
  ·have hb:bl x.fKey w.fKey=true:=zlp (by simpa using ha) he
   have hl:leW w.fKey x=true:=by unfold leW;rw [hb];rfl
   rw [if_neg he,hl,if_pos rfl,←ih]
   have hle:=zot (leW w.fKey) l
   generalize ziq (leW w.fKey) l=q at hle
   unfold zB9
   rw [if_neg (by omega),Nat.add_sub_cancel]
   cases q with
   |zero=>
    simp only [List.getElem?_cons_zero,if_true]
    rw [if_neg (fun e=>he e.symm)]
    simp
   |succ q=>
    rw [if_neg (by omega),Nat.add_sub_cancel,List.getElem?_cons_succ,List.getElem?_eq_getElem (by omega)]
    simp only
    split
    ·simp
    ·simp
theorem zzG {w:Str}: ∀{l:List zaa},zlq l→ ∀(j:Nat) (hj:j<l.length),ziq (leW w) l≤j→leW w l[j]=false
 | [],_,j,hj,_=>by simp at hj
 |x::l,h,j,hj,hq=>by
  obtain⟨h1,h2⟩:=zpz h
  rw [znf]at hq
  by_cases hx:leW w x=true
  ·rw [if_pos hx]at hq
   cases j with
   |zero=>omega
   |succ j=>exact zzG h2 j (by simpa using hj) (by omega)
  ·have hx':leW w x=false:=by simpa using hx
   cases j with
   |zero=>exact hx'
   |succ j=>
    have hm:l[j]'(by simpa using hj)∈l:=List.getElem_mem _
    have h3:=h1 _ hm
    show leW w (l[j]'(by simpa using hj))=false
    unfold leW at hx' ⊢
    simp only [Bool.or_eq_false_iff,beq_eq_false_iff_ne]at hx' ⊢
    have h4:bl w x.fKey=true:=zlp hx'.1 hx'.2
    have h5:=zgr h4 h3
    exact⟨zpo h5,fun e=>zo4 h5 e.symm⟩
theorem zzm {i:Nat} (h0:0<i) (h:i≤2000000):IntKind.i64.wrap ((i:Int)-1)=((i-1:Nat):Int):=by rw [zaC (by omega) (by omega)];omega
theorem zwn {l:List zaa} {w:zaa} (hl:l.length≤2000000) (hr:zlq l):zdH l w=some (zmi wk w l):=by
 have hk: ∀q:Nat,q≤l.length→zfK l w (q:Int)=some (zB9 l w q):=by
  intro q hq
  have r1:0≤(q:Int)∧(q:Int)≤(l.length:Int)∧(l.length:Int)≤(l.length:Int):=by omega
  have hw1:(zfZ l (q:Int) (l.length:Int))=l.drop q:=by rw [show(l.length:Int)=((l.length:Nat):Int)from rfl,zDu,List.take_length]
  have hw2:(zfZ l 0 (q:Int))=l.take q:=zC6 l q
  have r2:((([]:List zaa).length:Int)+((l.drop q).length:Int))*40≤140737488355328∧(([]:List zaa).length:Int)+((l.drop q).length:Int)≤140737488355328:=by
   rw [List.length_nil,List.length_drop];omega
  have r3:0≤(0:Int)∧(0:Int)≤(q:Int)∧(q:Int)≤(l.length:Int):=by omega
  have r4:((([]:List zaa).length:Int)+((l.take q).length:Int))*40≤140737488355328∧(([]:List zaa).length:Int)+((l.take q).length:Int)≤140737488355328:=by
   rw [List.length_nil,List.length_take];omega
  have r5:(((l.take q).length:Int)+(([w]:List zaa).length:Int))*40≤140737488355328∧((l.take q).length:Int)+(([w]:List zaa).length:Int)≤140737488355328:=by
   rw [List.length_singleton,List.length_take];omega
  have r6:(((l.take q++ [w]).length:Int)+((l.drop q).length:Int))*40≤140737488355328∧((l.take q++ [w]).length:Int)+((l.drop q).length:Int)≤140737488355328:=by
   rw [List.length_append,List.length_singleton,List.length_take,List.length_drop];omega
  have r7:((([]:List zaa).length:Int)+((l).length:Int))*40≤140737488355328∧(([]:List zaa).length:Int)+((l).length:Int)≤140737488355328:=by
   rw [List.length_nil];omega
  unfold zfK zB9
  by_cases h0:q=0
  ·subst h0
   rw [if_neg (by simp),if_pos rfl]
   rw [zad r1,hw1,zad r2,zad r3,hw2,zad r4,zad r5,zad r6]
  ·have hq1:q-1<l.length:=by omega
   rw [if_pos (by simp;omega),if_neg h0,zzm (by omega) (by omega),zac hq1,Option.bind_some,List.getElem?_eq_getElem hq1]
   simp only
   by_cases he:(l[q-1]).fKey=w.fKey
   ·rw [if_pos (by simpa using he),if_pos he,zad r7,Option.bind_some]
    rfl
   ·rw [if_neg (by simpa using he),if_neg he]
    rw [zad r1,hw1,zad r2,zad r3,hw2,zad r4,zad r5,zad r6]
 have hle:=zot (leW w.fKey) l
 have key: ∀n j:Nat,j=ziq (leW w.fKey) l+n→j≤l.length→zal (fun s:Int=>zcT l w s) (j:Int)=some (zB9 l w (ziq (leW w.fKey) l)):=by
  intro n
  induction n with
  |zero=>
   intro j hj hjl
   have hj':j=ziq (leW w.fKey) l:=by omega
   refine(zbR ?_).trans (hk _ hle)
   show zcT l w (j:Int)=_
   unfold zcT
   by_cases h0:j=0
   ·rw [if_neg (by simp [h0]),hj']
   ·have hq1:j-1<l.length:=by omega
    have ht:=zwe (lt:=leW w.fKey) (l:=l) (i:=j-1) (by omega)
    rw [if_pos (by simp;omega),zzm (by omega) (by omega),zac hq1,Option.bind_some,if_neg,hj']
    unfold leW at ht
    have ht:(bl l[j-1].fKey w.fKey||l[j-1].fKey==w.fKey)=true:=ht
    show¬(!(bl l[j-1].fKey w.fKey||l[j-1].fKey==w.fKey))=true
    rw [ht];simp
  |succ n ih=>
   intro j hj hjl
   have hq1:j-1<l.length:=by omega
   have ht:=zzG (w:=w.fKey) hr (j-1) hq1 (by omega)
   have e:zcT l w (j:Int)=some (.inl ((j-1:Nat):Int)):=by
    unfold zcT
    rw [if_pos (by simp;omega),zzm (by omega) (by omega),zac hq1,Option.bind_some,if_pos]
    have ht:(bl l[j-1].fKey w.fKey||l[j-1].fKey==w.fKey)=false:=ht
    show(!(bl l[j-1].fKey w.fKey||l[j-1].fKey==w.fKey))=true
    rw [ht];rfl
   rw [zcf (body:=fun s:Int=>zcT l w s) e]
   exact ih (j-1) (by omega) (by omega)
 unfold zdH
 rw [key (l.length-ziq (leW w.fKey) l) l.length (by omega) (Nat.le_refl _),zw0 hr]
end Go.Proofs.YtgobcjbjogkpjaaGreatDoor
end
section
namespace Go.Proofs.YtgobcjbjogkpjaaGreatDoor
open Go.RowKit
set_option maxRecDepth 100000
structure OkO (o:DOp):Prop where
 key:zcD o.fKey=true
 val:zgL o.fVal=true
 by_:o.fBy=0
 kind:o.fKind=2∨o.fKind=3∨o.fKind=6∨o.fKind=7
 none:o.fKind=3∨o.fKind=6→o.fVal= []
theorem zuo {s:Str} (h:zgL s=true):s.length≤24:=by
 unfold zgL at h
 simp only [Bool.and_eq_true,decide_eq_true_eq]at h
 omega
theorem zuu {s:Str} (h:zcD s=true):s.length≤12:=by
 unfold zcD at h
 simp only [Bool.and_eq_true]at h
 have:=zbb.1 h.1
 omega
theorem zve (s:Str) (h:s.length≤2000000): ∃r,zgF s=some r:=by
 unfold zgF
 rw [zlg,Option.bind_some]
 cases hb:inB s.length 1 6 with
 |false=>exact⟨_,rfl⟩
 |true=>
  have h1:=zbb.1 hb
  obtain⟨x,e,_,_⟩:=zoo (xs:=s) (i:=0) (by omega) (by omega)
  rw [if_pos rfl,e,Option.bind_some]
  split
  ·exact⟨_,rfl⟩
  ·have key: ∀(n q:Nat) (v:Int),q+n=s.length→ ∃r,zal (fun s_:Int × Int=>zbC s s_.1 s_.2) (v,(q:Int))=some r:=by
    intro n
    induction n with
    |zero=>
     intro q v hq
     refine⟨v,zbR ?_⟩
     show zbC s v q=_
     unfold zbC
     rw [if_neg (by simp;omega)]
    |succ n ih=>
     intro q v hq
     have hlt:q<s.length:=by omega
     by_cases hd:((decide (((s[q]).toNat:Int)<48))||(decide (((s[q]).toNat:Int)>57)))=true
     ·refine⟨-1,zbR ?_⟩
      show zbC s v q=_
      unfold zbC
      rw [if_pos (by simpa using hlt),zac hlt,Option.bind_some,if_pos hd]
     ·have e:zbC s v q=some (.inl ((IntKind.i64.wrap ((IntKind.i64.wrap ((10:Int)*v))+(IntKind.i64.wrap (IntKind.u8.wrap (((s[q]).toNat:Int)-48))))),((q+1:Nat):Int))):=by
       unfold zbC
       rw [if_pos (by simpa using hlt),zac hlt,Option.bind_some,if_neg hd,zaN hlt (by omega)]
      obtain⟨r,hr⟩:=ih (q+1) _ (by omega)
      exact⟨r,(zcf (body:=fun s_:Int × Int=>zbC s s_.1 s_.2) e).trans hr⟩
   exact key s.length 0 0 (by omega)
theorem zAU (s:Str) (h:s.length≤2000000): ∃r,zh6 s=some r:=by
 have hj1: ∀(y:UInt8) (v:Str),v.length≤2000000→ ∃r,zgG y v=some r:=by
  intro y v hv
  obtain⟨r,e⟩:=zve v hv
  unfold zgG
  rw [e,Option.bind_some]
  split
  ·exact⟨_,rfl⟩
  ·split<;>exact⟨_,rfl⟩
 unfold zh6
 by_cases h0:(s.length:Int)>0
 ·obtain⟨x,e,_,_⟩:=zoo (xs:=s) (i:=0) (by omega) (by omega)
  rw [if_pos (by simpa using h0),e,Option.bind_some]
  split
  ·rw [zad (by omega)]
   exact hj1 _ _ (by rw [zFv,List.length_tail];omega)
  ·exact hj1 _ _ h
 ·rw [if_neg (by simpa using h0)]
  unfold zlh
  obtain⟨r,e⟩:=zve s h
  rw [e,Option.bind_some]
  split<;>exact⟨_,rfl⟩
def zyV (o:DOp) (val:Str) (there:Bool):Bool:=if o.fKind=6 then !there else there&&val==o.fVal
def zjI (got:List zg0):List DOp→List zaa→Int × Str × List zaa
 | [],ws=>(3, [],ws)
 |o::l,ws=>
  if o.fKind=2 then zjI got l (zmi wk ⟨o.fKey,o.fVal,false⟩ ws)else
  if o.fKind=3 then zjI got l (zmi wk ⟨o.fKey, [],true⟩ ws)else
  if(zds ws got o.fKey).2.2=true then(if zyV o (zds ws got o.fKey).1 (zds ws got o.fKey).2.1=true then zjI got l ws else(2, [], []))
  else(1,o.fKey, [])
structure zrB (n:Nat) (ws:List zaa):Prop where
 rise:zlq ws
 len:ws.length≤n
 good: ∀w∈ws,zhW w=true
theorem ziM {n:Nat} {ws:List zaa} {w:zaa} (h:zrB n ws) (hw:zhW w=true):zrB (n+1) (zmi wk w ws):=by
 refine⟨zuj h.rise,Nat.le_trans (zxm _) (by have:=h.len;omega),fun y hy=> ?_⟩
 rcases(zt8 (key:=wk) h.rise y).1 hy with rfl|hy
 ·exact hw
 ·exact h.good y hy.1
theorem zqQ {o:DOp} (h:OkO o):zhW ⟨o.fKey,o.fVal,false⟩=true:=by
 unfold zhW zj9
 simp [h.key,h.val]
theorem zoq {o:DOp} (h:OkO o):zhW ⟨o.fKey, [],true⟩=true:=by
 unfold zhW zj9
 rw [h.key]
 rfl
theorem zng {w:zaa} (h:zhW w=true):w.fVal.length≤24:=by
 unfold zhW zj9 at h
 simp only [Bool.and_eq_true]at h
 exact zuo h.2.1
theorem zu2 {w:zaa} (h:zhW w=true):w.fKey.length≤12:=by
 unfold zhW at h
 simp only [Bool.and_eq_true]at h
 exact zuu h.1
theorem zsa {ws:List zaa} {got:List zg0} {k:Str} (hw: ∀w∈ws,zhW w=true) (hg: ∀g∈got,g.fVal.length≤2000):(zds ws got k).1.length≤2000:=by
 unfold zds
 cases e:ws.find? (fun w=>w.fKey==k)with
 |some w=>
  have:=zng (hw w (List.mem_of_find?_eq_some e))
  show w.fVal.length≤2000
  omega
 |none=>
  unfold zxZ
  cases e2:got.find? (fun g=>g.fKey==k)with
  |some g=>exact hg g (List.mem_of_find?_eq_some e2)
  |none=>simp
theorem zAn {o:DOp} (h:OkO o) (hk2:o.fKind≠2) (hk3:o.fKind≠3) {val:Str} {there:Bool} (hv:val.length≤2000):zfl o val there=some (zyV o val there):=by
 have e: ∃r,zfa val=some r:=by
  unfold zfa zhC
  rw [zad (by omega)]
  exact⟨_,rfl⟩
 obtain⟨r,e⟩:=e
 unfold zfl zyV
 rw [e,Option.bind_some]
 rcases h.kind with h1|h1|h1|h1
 ·exact absurd h1 hk2
 ·exact absurd h1 hk3
 ·rw [h1];rfl
 ·rw [h1];rfl
theorem zBn {o:DOp} (h:OkO o) {val:Str} {there:Bool} (hv:val.length≤2000):zhD o val there=some (if o.fKind=2∨o.fKind=3 then false else !zyV o val there):=by
 obtain⟨r,e⟩:=zAU val (by omega)
 unfold zhD zyV
 rw [e,Option.bind_some]
 rcases h.kind with h1|h1|h1|h1
 ·rw [h1];rfl
 ·rw [h1];rfl
 ·rw [h1];cases there<;>rfl
 ·rw [h1]
  show some (!there||val !=o.fVal)=some (!(there&&val==o.fVal))
  cases there<;>simp [bne]
theorem zDa {ops:List DOp} {got:List zg0} (hl:ops.length≤1000) (ho: ∀o∈ops,OkO o) (hg:got.length≤2000) (hv: ∀g∈got,g.fVal.length≤2000):zjD ops got=some (zjI got ops []):=by
 have key: ∀(n q:Nat) (ws:List zaa),q+n=ops.length→zrB q ws→zal (fun s:Int × List zaa=>zaD ops got s.1 s.2) ((q:Int),ws)=some (zjI got (ops.drop q) ws):=by
  intro n
  induction n with
  |zero=>
   intro q ws hq hw
   rw [List.drop_eq_nil_of_le (by omega),zjI]
   refine zbR ?_
   show zaD ops got q ws=_
   unfold zaD
   rw [if_neg (by simp;omega)]
  |succ n ih=>
   intro q ws hq hw
   have hlt:q<ops.length:=by omega
   have hok:=ho _ (List.getElem_mem hlt)
   have hwl:=hw.len
   have hwr:=zaN hlt (by omega)
   rw [List.drop_eq_getElem_cons hlt,zjI]
   by_cases h2:(ops[q]).fKind=2
   ·rw [if_pos h2]
    have e:zaD ops got q ws=some (.inl (((q+1:Nat):Int),zmi wk ⟨(ops[q]).fKey,(ops[q]).fVal,false⟩ ws)):=by
     unfold zaD
     rw [if_pos (by simpa using hlt),zac hlt,Option.bind_some,if_pos (by simpa using h2),zom (by omega) hw.rise,Option.bind_some,hwr]
    rw [zcf (body:=fun s:Int × List zaa=>zaD ops got s.1 s.2) e]
    exact ih (q+1) _ (by omega) (ziM hw (zqQ hok))
   rw [if_neg h2]
   by_cases h3:(ops[q]).fKind=3
   ·rw [if_pos h3]
    have e:zaD ops got q ws=some (.inl (((q+1:Nat):Int),zmi wk ⟨(ops[q]).fKey, [],true⟩ ws)):=by
     unfold zaD
     rw [if_pos (by simpa using hlt),zac hlt,Option.bind_some,if_neg (by simpa using h2),if_pos (by simpa using h3),zom (by omega) hw.rise,Option.bind_some,hwr]
    rw [zcf (body:=fun s:Int × List zaa=>zaD ops got s.1 s.2) e]
    exact ih (q+1) _ (by omega) (ziM hw (zoq hok))
   rw [if_neg h3]
   have hsl:=zsa (k:=(ops[q]).fKey) hw.good hv
   have hb:zaD ops got q ws=if(zds ws got (ops[q]).fKey).2.2=true then(if zyV ops[q] (zds ws got (ops[q]).fKey).1 (zds ws got (ops[q]).fKey).2.1=true then some (.inl (((q+1:Nat):Int),ws))else some (.inr (some (2, [], []))))else some (.inr (some (1,(ops[q]).fKey, []))):=by
    unfold zaD
    rw [if_pos (by simpa using hlt),zac hlt,Option.bind_some,if_neg (by simpa using h2),if_neg (by simpa using h3),zxw (by omega) (by omega) hw.rise,Option.bind_some]
    cases hs:(zds ws got (ops[q]).fKey).2.2 with
    |false=>rw [if_pos (by simp),if_neg (by simp)]
    |true=>
     rw [if_neg (by simp),if_pos rfl,zAn hok h2 h3 hsl,Option.bind_some]
     have h4: ¬(ops[q]).fKind=4:=by rcases hok.kind with h|h|h|h<;>omega
     cases zyV ops[q] (zds ws got (ops[q]).fKey).1 (zds ws got (ops[q]).fKey).2.1 with
     |false=>rfl
     |true=>rw [if_neg (by simp),if_neg (by simpa using h4),if_pos rfl,hwr]
   by_cases hs:(zds ws got (ops[q]).fKey).2.2=true
   ·rw [if_pos hs]at hb ⊢
    by_cases hk:zyV ops[q] (zds ws got (ops[q]).fKey).1 (zds ws got (ops[q]).fKey).2.1=true
    ·rw [if_pos hk]at hb ⊢
     rw [zcf (body:=fun s:Int × List zaa=>zaD ops got s.1 s.2) hb]
     exact ih (q+1) _ (by omega) ⟨hw.rise,by omega,hw.good⟩
    ·rw [if_neg hk]at hb ⊢
     exact zbR hb
   ·rw [if_neg hs]at hb ⊢
    exact zbR hb
 exact key ops.length 0 [] (by omega) ⟨List.Pairwise.nil,Nat.le_refl _,by simp⟩
theorem zDl {ops:List DOp} {got:List zg0} (hl:ops.length≤1000) (ho: ∀o∈ops,OkO o) (hg:got.length≤2000) (hv: ∀g∈got,g.fVal.length≤2000):zkm ops got=some (zjI got ops []):=by
 have key: ∀(n q:Nat) (ws:List zaa),q+n=ops.length→zrB q ws→zal (fun s:List zaa × Int=>zaM ops got s.1 s.2) (ws,(q:Int))=some (zjI got (ops.drop q) ws):=by
  intro n
  induction n with
  |zero=>
   intro q ws hq hw
   rw [List.drop_eq_nil_of_le (by omega),zjI]
   refine zbR ?_
   show zaM ops got ws q=_
   unfold zaM
   rw [if_neg (by simp;omega)]
  |succ n ih=>
   intro q ws hq hw
   have hlt:q<ops.length:=by omega
   have hok:=ho _ (List.getElem_mem hlt)
   have hwl:=hw.len
   have hwr:=zaN hlt (by omega)
   have hsl:=zsa (k:=(ops[q]).fKey) hw.good hv
   have hgv:=zBn hok (val:=(zds ws got (ops[q]).fKey).1) (there:=(zds ws got (ops[q]).fKey).2.1) hsl
   rw [List.drop_eq_getElem_cons hlt,zjI]
   by_cases h2:(ops[q]).fKind=2
   ·rw [if_pos h2]
    rw [if_pos (.inl h2)]at hgv
    have e:zaM ops got ws q=some (.inl (zmi wk ⟨(ops[q]).fKey,(ops[q]).fVal,false⟩ ws,((q+1:Nat):Int))):=by
     unfold zaM
     rw [if_pos (by simpa using hlt),zac hlt,Option.bind_some,zp6 (by omega) (by omega),Option.bind_some,if_neg (by simp [h2]),hgv,Option.bind_some,if_neg (by simp),if_pos (by simpa using h2),zwn (by omega) hw.rise,Option.bind_some,hwr]
    rw [zcf (body:=fun s:List zaa × Int=>zaM ops got s.1 s.2) e]
    exact ih (q+1) _ (by omega) (ziM hw (zqQ hok))
   rw [if_neg h2]
   by_cases h3:(ops[q]).fKind=3
   ·rw [if_pos h3]
    rw [if_pos (.inr h3)]at hgv
    have e:zaM ops got ws q=some (.inl (zmi wk ⟨(ops[q]).fKey, [],true⟩ ws,((q+1:Nat):Int))):=by
     unfold zaM
     rw [if_pos (by simpa using hlt),zac hlt,Option.bind_some,zp6 (by omega) (by omega),Option.bind_some,if_neg (by simp [h3]),hgv,Option.bind_some,if_neg (by simp),if_neg (by simpa using h2),if_pos (by simpa using h3),zwn (by omega) hw.rise,Option.bind_some,hwr]
    rw [zcf (body:=fun s:List zaa × Int=>zaM ops got s.1 s.2) e]
    exact ih (q+1) _ (by omega) (ziM hw (zoq hok))
   rw [if_neg h3]
   rw [if_neg (by simp [h2,h3])]at hgv
   have hb:zaM ops got ws q=if(zds ws got (ops[q]).fKey).2.2=true then(if zyV ops[q] (zds ws got (ops[q]).fKey).1 (zds ws got (ops[q]).fKey).2.1=true then some (.inl (ws,((q+1:Nat):Int)))else some (.inr (some (2, [], []))))else some (.inr (some (1,(ops[q]).fKey, []))):=by
    unfold zaM
    rw [if_pos (by simpa using hlt),zac hlt,Option.bind_some,zp6 (by omega) (by omega),Option.bind_some]
    cases hs:(zds ws got (ops[q]).fKey).2.2 with
    |false=>rw [if_pos (by simp [h2,h3]),if_neg (by simp)]
    |true=>
     rw [if_neg (by simp),if_pos rfl,hgv,Option.bind_some]
     have h4: ¬(ops[q]).fKind=4:=by rcases hok.kind with h|h|h|h<;>omega
     cases zyV ops[q] (zds ws got (ops[q]).fKey).1 (zds ws got (ops[q]).fKey).2.1 with
     |false=>rfl
     |true=>rw [if_neg (by simp),if_neg (by simpa using h2),if_neg (by simpa using h3),if_neg (by simpa using h4),if_pos rfl,hwr]
   by_cases hs:(zds ws got (ops[q]).fKey).2.2=true
   ·rw [if_pos hs]at hb ⊢
    by_cases hk:zyV ops[q] (zds ws got (ops[q]).fKey).1 (zds ws got (ops[q]).fKey).2.1=true
    ·rw [if_pos hk]at hb ⊢
     rw [zcf (body:=fun s:List zaa × Int=>zaM ops got s.1 s.2) hb]
     exact ih (q+1) _ (by omega) ⟨hw.rise,by omega,hw.good⟩
    ·rw [if_neg hk]at hb ⊢
     exact zbR hb
   ·rw [if_neg hs]at hb ⊢
    exact zbR hb
 exact key ops.length 0 [] (by omega) ⟨List.Pairwise.nil,Nat.le_refl _,by simp⟩
theorem zl0 {got:List zg0}: ∀(l:List DOp) {n:Nat} {ws:List zaa},(∀o∈l,OkO o)→zrB n ws→zrB (n+l.length) (zjI got l ws).2.2∧((zjI got l ws).1=1→ ∃o∈l,o.fKey=(zjI got l ws).2.1∧ ∀g∈got,g.fKey≠o.fKey)
 | [],n,ws,_,hw=>⟨hw,fun h=>by simp [zjI]at h⟩
 |o::l,n,ws,ho,hw=>by
  have hok:=ho o (by simp)
  have hl: ∀o∈l,OkO o:=fun x hx=>ho x (by simp [hx])
  have up: ∀{w:List zaa},zrB (n+l.length) w→zrB (n+(o::l).length) w:=fun h=>⟨h.rise,by have:=h.len;rw [List.length_cons];omega,h.good⟩
  rw [zjI]
  split
  ·obtain⟨a,b⟩:=zl0 (got:=got) l hl (ziM hw (zqQ hok))
   refine⟨⟨a.rise,by have:=a.len;rw [List.length_cons];omega,a.good⟩,fun h=> ?_⟩
   obtain⟨x,hx,h1,h2⟩:=b h
   exact⟨x,by simp [hx],h1,h2⟩
  ·split
   ·obtain⟨a,b⟩:=zl0 (got:=got) l hl (ziM hw (zoq hok))
    refine⟨⟨a.rise,by have:=a.len;rw [List.length_cons];omega,a.good⟩,fun h=> ?_⟩
    obtain⟨x,hx,h1,h2⟩:=b h
    exact⟨x,by simp [hx],h1,h2⟩
   ·split
    ·split
     ·obtain⟨a,b⟩:=zl0 (got:=got) l hl hw
      refine⟨up a,fun h=> ?_⟩
      obtain⟨x,hx,h1,h2⟩:=b h
      exact⟨x,by simp [hx],h1,h2⟩
     ·exact⟨⟨List.Pairwise.nil,by simp,by simp⟩,fun h=>by simp at h⟩
    ·rename_i hs
     refine⟨⟨List.Pairwise.nil,by simp,by simp⟩,fun _=>⟨o,by simp,rfl,fun g hg e=> ?_⟩⟩
     apply hs
     unfold zds
     cases e1:ws.find? (fun w=>w.fKey==o.fKey)with
     |some w=>rfl
     |none=>
      unfold zxZ
      cases e2:got.find? (fun g=>g.fKey==o.fKey)with
      |some g=>rfl
      |none=>
       rw [List.find?_eq_none]at e2
       exact absurd (by simpa using e) (e2 g hg)
def mu (ops:List DOp) (got:List zg0):Nat:=(ops.filter fun o=>got.all fun g=>g.fKey !=o.fKey).length
theorem zEG {ops:List DOp} {got:List zg0} {g:zg0} {o:DOp} (ho:o∈ops) (hk:o.fKey=g.fKey) (hn: ∀x∈got,x.fKey≠o.fKey):mu ops (got++ [g])<mu ops got:=by
 unfold mu
 have e:(fun o:DOp=>(got++ [g]).all fun x=>x.fKey !=o.fKey)=fun o=>(got.all fun x=>x.fKey !=o.fKey)&&(g.fKey !=o.fKey):=by
  funext x
  rw [List.all_append]
  simp
 have e2:ops.filter (fun o:DOp=>(got++ [g]).all fun x=>x.fKey !=o.fKey)=(ops.filter fun o=>got.all fun x=>x.fKey !=o.fKey).filter fun o=>g.fKey !=o.fKey:=by
  rw [e,List.filter_filter]
  congr 1
  funext x
  rw [Bool.and_comm]
 rw [e2]
 have hm:o∈ops.filter fun o=>got.all fun x=>x.fKey !=o.fKey:=List.mem_filter.2 ⟨ho,List.all_eq_true.2 fun x hx=>by simpa using hn x hx⟩
 generalize ops.filter (fun o=>got.all fun x=>x.fKey !=o.fKey)=l at hm
 have hlt: ∀(l:List DOp),o∈l→(l.filter fun o=>g.fKey !=o.fKey).length<l.length:=by
  intro l
  induction l with
  |nil=>intro h;simp at h
  |cons y l ih=>
   intro h
   rw [List.filter_cons]
   rcases List.mem_cons.1 h with rfl|h
   ·rw [if_neg (by simp [hk])]
    have:=List.length_filter_le (fun o:DOp=>g.fKey !=o.fKey) l
    rw [List.length_cons];omega
   ·have:=ih h
    split
    ·rw [List.length_cons,List.length_cons];omega
    ·rw [List.length_cons];omega
 exact hlt l hm
theorem zFj (ops:List DOp) (got:List zg0):mu ops got≤ops.length:=List.length_filter_le _ _
def zDP (rows:List zaa) (ops:List DOp):Nat→List zg0→List zaa × Bool
 |0,_=>([],false)
 |n+1,got=>if(zjI got ops []).1=1 then zDP rows ops n (got++ [zkb rows (zjI got ops []).2.1])else((zjI got ops []).2.2,(zjI got ops []).1==3)
structure zre (rows:List zaa):Prop where
 rise:zlq rows
 len:rows.length≤24
 good: ∀w∈rows,zhW w=true
theorem zAA {rows:List zaa} {k:Str} (h:zre rows):(zkb rows k).fVal.length≤2000∧(zkb rows k).fKey=k:=by
 unfold zkb
 cases e:rows.find? (fun w=>w.fKey==k)with
 |some w=>
  have:=zng (h.good w (List.mem_of_find?_eq_some e))
  exact⟨by show w.fVal.length≤2000;omega,rfl⟩
 |none=>exact⟨by simp,rfl⟩
theorem zw6 {rows:List zaa} {ops:List DOp} (hl:ops.length≤8) (ho: ∀o∈ops,OkO o) (hr:zre rows): ∀(n:Nat) (got:List zg0),mu ops got<n→got.length+n≤1000→(∀g∈got,g.fVal.length≤2000)→
  (∃g,zal (fun s:List zg0=>zbZ rows ops s) got=some (g,zDP rows ops n got))∧(∃g,zal (fun s:List zg0=>zci rows ops s) got=some (g,zDP rows ops n got))∧zrB 8 (zDP rows ops n got).1
 |0,got,hm,_,_=>by omega
 |n+1,got,hm,hg,hv=>by
  have hi:=zDa (got:=got) (by omega) ho (by omega) hv
  have hs:=zDl (got:=got) (by omega) ho (by omega) hv
  obtain⟨ga,gb⟩:=zl0 (got:=got) ops (n:=0) (ws:= []) ho ⟨List.Pairwise.nil,Nat.le_refl _,by simp⟩
  have hrl:=hr.len
  rw [zDP]
  generalize zjI got ops []=r at hi hs ga gb
  by_cases h1:r.1=1
  ·rw [if_pos h1]
   obtain⟨o,hom,hok,hon⟩:=gb h1
   obtain⟨t1,t2⟩:=zAA (k:=r.2.1) hr
   have hq:(((got).length:Int)+(([zkb rows r.2.1]:List zg0).length:Int))*40≤140737488355328∧((got).length:Int)+(([zkb rows r.2.1]:List zg0).length:Int)≤140737488355328:=by
    rw [List.length_singleton];omega
   have ei:zbZ rows ops got=some (.inl (got++ [zkb rows r.2.1])):=by
    unfold zbZ
    rw [hi,Option.bind_some,if_neg (by simp [h1]),zAP (by omega) hr.rise,Option.bind_some,zad hq]
   have es:zci rows ops got=some (.inl (got++ [zkb rows r.2.1])):=by
    unfold zci
    rw [hs,Option.bind_some,if_neg (by simp [h1]),zCQ (by omega),Option.bind_some,zad hq]
   rw [zcf (body:=fun s:List zg0=>zbZ rows ops s) ei,zcf (body:=fun s:List zg0=>zci rows ops s) es]
   refine zw6 hl ho hr n _ ?_ (by rw [List.length_append,List.length_singleton];omega) fun g hg'=> ?_
   ·have:=zEG (g:=zkb rows r.2.1) hom (hok.trans t2.symm) hon
    omega
   ·rcases List.mem_append.1 hg' with h|h
    ·exact hv g h
    ·rw [List.mem_singleton]at h;subst h;exact t1
  ·rw [if_neg h1]
   refine⟨⟨got,zbR ?_⟩,⟨got,zbR ?_⟩,ga.rise,by have:=ga.len;show r.2.2.length≤8;omega,ga.good⟩
   ·show zbZ rows ops got=_
    unfold zbZ
    rw [hi,Option.bind_some,if_pos (by simpa using h1)]
   ·show zci rows ops got=_
    unfold zci
    rw [hs,Option.bind_some,if_pos (by simpa using h1)]
def zmK (rows:List zaa) (ops:List DOp):List zaa × Bool:=zDP rows ops 9 []
theorem zvI {rows:List zaa} {ops:List DOp} (hl:ops.length≤8) (ho: ∀o∈ops,OkO o) (hr:zre rows):(∃g,zjb rows ops=some (g,zmK rows ops))∧(∃g,zjJ rows ops=some (g,zmK rows ops))∧zrB 8 (zmK rows ops).1:=by
 have:=zFj ops []
 exact zw6 hl ho hr 9 [] (by omega) (by simp) (by simp)
end Go.Proofs.YtgobcjbjogkpjaaGreatDoor
end
section
namespace Go.Proofs.YtgobcjbjogkpjaaGreatDoor
open Go.RowKit
set_option maxRecDepth 100000
theorem zvt {s:Str} (h:field s=true):s.length≤3:=by
 unfold field at h
 simp only [Bool.and_eq_true]at h
 have:=zbb.1 h.1
 omega
theorem zwo {t:zab} {r:zdG} (h:zbp t r=true) (c:Int):(zj0 r c).length≤3:=by
 unfold zbp at h
 simp only [Bool.and_eq_true]at h
 unfold zj0
 cases e:r.fVals[c.toNat]? with
 |none=>simp
 |some s=>exact zvt (List.all_eq_true.1 h.2 s (List.mem_of_getElem? e))
theorem zuC {k:Nat}: ∀{xs:List Str},(∀s∈xs,s.length≤k)→zef xs≤k*xs.length
 | [],_=>by simp [zef]
 |s::xs,h=>by
  have h1:=h s (by simp)
  have h2:=zuC (k:=k) (xs:=xs) fun y hy=>h y (by simp [hy])
  simp only [zef,List.length_cons,Nat.mul_add,Nat.mul_one]
  omega
theorem zBu {t:zab} {r:zdG} (hg:zar t=true) (h:zbp t r=true):(zk0 t r).fKey.length≤5∧(zk0 t r).fVal.length≤20:=by
 have hn:=zjc (zlv hg)
 have hc:=zkp hg
 have hv:=zwo h 0
 have h':=h
 unfold zbp at h'
 simp only [Bool.and_eq_true,beq_iff_eq]at h'
 have hall: ∀s∈r.fVals,s.length≤3:=fun s hs=>zvt (List.all_eq_true.1 h'.2 s hs)
 constructor
 ·unfold zk0
  have e:(r.fVals.head?).getD []=zj0 r 0:=by unfold zj0;rw [List.head?_eq_getElem?];rfl
  simp only [e,List.length_append,List.length_singleton]
  omega
 ·have h1:=zua r.fVals.tail [44]
  have h2:=zuC (k:=3) (xs:=r.fVals.tail) fun s hs=>hall s (List.mem_of_mem_tail hs)
  have h3:r.fVals.tail.length≤3:=by rw [List.length_tail];omega
  rw [List.length_singleton]at h1
  show(Lib.join r.fVals.tail [44]).length≤20
  omega
theorem zAp {t:zab} {n:Str} {c:Int} {r:zdG} (hg:zar t=true) (hn:n.length=1) (h:zbp t r=true):(zk6 t n c r).length≤11:=by
 have h1:=zjc (zlv hg)
 have h2:=zwo h c
 have h3:=zwo h 0
 unfold zk6 head
 simp only [List.length_append,List.length_singleton]
 omega
theorem zw4 {α β:Type} {P:β→Prop} {f:α→List β}: ∀(xs:List α) (a:List β),(∀x∈xs,∀o∈f x,P o)→(∀o∈a,P o)→ ∀o∈xs.foldl (fun a x=>a++f x) a,P o
 | [],a,_,h=>h
 |x::xs,a,hf,h=>zw4 xs (a++f x) (fun y hy=>hf y (by simp [hy])) fun o ho=>by
  rcases List.mem_append.1 ho with ho|ho
  ·exact h o ho
  ·exact hf x (by simp) o ho
theorem zvi {α β:Type} {f:α→List β} (hf: ∀x,(f x).length≤2): ∀(xs:List α) (a:List β),(xs.foldl (fun a x=>a++f x) a).length≤a.length+2*xs.length
 | [],a=>by simp
 |x::xs,a=>by
  have h1:=zvi hf xs (a++f x)
  have h2:=hf x
  rw [List.length_append]at h1
  rw [List.foldl_cons,List.length_cons]
  omega
def zCx (s:Str):Prop:= ∀b∈s,(zfD b||([46,47]:Str).contains b)=true
def zFB (s:Str):Prop:= ∀b∈s,(zfD b||([46,45,44,95]:Str).contains b)=true
theorem zzh {s:Str} (h:field s=true): ∀b∈s,zfD b=true:=by
 unfold field zi4 at h
 simp only [Bool.and_eq_true]at h
 intro b hb
 have:=List.all_eq_true.1 h.2 b hb
 simpa using this
theorem zmq {s:Str} {k:Int} (h:zcA s k=true): ∀b∈s,zfD b=true:=by
 unfold zcA at h
 simp only [Bool.and_eq_true]at h
 intro b hb
 have:=List.all_eq_true.1 h.1 b hb
 unfold small at this
 unfold zfD
 simp only [Bool.not_eq_true',Bool.or_eq_false_iff,decide_eq_false_iff_not]at this
 simp only [Bool.or_eq_true,Bool.and_eq_true,decide_eq_true_eq]
 left
 omega
theorem ziV {s:Str} (h: ∀b∈s,zfD b=true):zCx s:=fun b hb=>by rw [h b hb];rfl
theorem zCx.app {s u:Str} (h:zCx s) (k:zCx u):zCx (s++u):=fun b hb=>by
 rcases List.mem_append.1 hb with hb|hb
 ·exact h b hb
 ·exact k b hb
theorem zFz:zCx [46]:=fun b hb=>by rw [List.mem_singleton]at hb;subst hb;decide
theorem zCV:zCx [47]:=fun b hb=>by rw [List.mem_singleton]at hb;subst hb;decide
theorem zso {s:Str} (h1:1≤s.length) (h2:s.length≤12) (h:zCx s):zcD s=true:=by
 unfold zcD zi4
 rw [zbb.2 ⟨by omega,by omega⟩,List.all_eq_true.2 h]
 rfl
theorem zxs {s:Str} (h2:s.length≤24) (h:zFB s):zgL s=true:=by
 unfold zgL zi4
 rw [show decide ((s.length:Int)≤24)=true by simp;omega,List.all_eq_true.2 h]
 rfl
theorem zBr {xs:List Str} (h: ∀x∈xs,∀b∈x,zfD b=true):zFB (Lib.join xs [44]):=by
 cases xs with
 |nil=>intro b hb;simp [Lib.join_nil]at hb
 |cons x r=>
  intro b hb
  rw [Lib.join_cons]at hb
  rcases List.mem_append.1 hb with hb|hb
  ·rw [h x (by simp) b hb];rfl
  ·unfold Lib.joinTail at hb
   obtain⟨l,hl,hbl⟩:=List.mem_flatten.1 hb
   obtain⟨y,hy,rfl⟩:=List.mem_map.1 hl
   rcases List.mem_append.1 hbl with hb|hb
   ·rw [List.mem_singleton]at hb;subst hb;decide
   ·rw [h y (by simp [hy]) b hb];rfl
theorem zst {t:zab} {r:zdG} (h:zbp t r=true): ∀x∈r.fVals,∀b∈x,zfD b=true:=by
 unfold zbp at h
 simp only [Bool.and_eq_true]at h
 exact fun x hx=>zzh (List.all_eq_true.1 h.2 x hx)
theorem zvP {t:zab} {r:zdG} (h:zbp t r=true) (c:Int): ∀b∈zj0 r c,zfD b=true:=by
 unfold zj0
 cases e:r.fVals[c.toNat]? with
 |none=>simp
 |some s=>exact zst h s (List.mem_of_getElem? e)
theorem zpA {t:zab} {r:zdG} (hg:zar t=true) (h:zbp t r=true):zcD (zk0 t r).fKey=true∧zgL (zk0 t r).fVal=true:=by
 have hl:=zBu hg h
 have e:(zk0 t r).fKey=t.fName++ [47]++zj0 r 0:=by
  unfold zk0 zj0
  rw [List.head?_eq_getElem?]
  rfl
 refine⟨zso ?_ (by omega) ?_,zxs (by omega) ?_⟩
 ·rw [e];simp;omega
 ·rw [e]
  exact((ziV (zmq (zlv hg))).app zCV).app (ziV (zvP h 0))
 ·exact zBr fun x hx=>zst h x (List.mem_of_mem_tail hx)
theorem zsG {t:zab} {n:Str} {c:Int} {r:zdG} (hg:zar t=true) (hn:zcA n 1=true) (h:zbp t r=true):zcD (zk6 t n c r)=true:=by
 have hl:=zAp (c:=c) hg (zjc hn) h
 refine zso ?_ (by omega) ?_
 ·unfold zk6;simp;omega
 ·unfold zk6 head
  exact((((((ziV (zmq (zlv hg))).app zFz).app (ziV (zmq hn))).app zCV).app (ziV (zvP h c))).app zCV).app (ziV (zvP h 0))
end Go.Proofs.YtgobcjbjogkpjaaGreatDoor
end
section
namespace Go.Proofs.YtgobcjbjogkpjaaGreatDoor
open Go.RowKit
set_option maxRecDepth 100000
theorem zA7 {t:zab} {a:zaz} (hg:zar t=true) (h:zi9 t a=true):(ztd t a).length≤8∧ ∀o∈ztd t a,OkO o:=by
 have ho:a.fKind≠1→zbp t a.fOld=true:=fun h1=>by
  unfold zi9 at h
  rw [if_neg h1]at h
  by_cases h2:a.fKind=2
  ·rw [if_pos h2,Bool.and_eq_true]at h;exact h.1
  rw [if_neg h2]at h
  by_cases h3:a.fKind=3
  ·rw [if_pos h3,Bool.and_eq_true]at h;exact h.1
  rw [if_neg h3]at h;cases h
 have hn:a.fKind≠2→zbp t a.fNew=true:=fun h2=>by
  unfold zi9 at h
  by_cases h1:a.fKind=1
  ·rw [if_pos h1,Bool.and_eq_true]at h;exact h.2
  rw [if_neg h1,if_neg h2]at h
  by_cases h3:a.fKind=3
  ·rw [if_pos h3,Bool.and_eq_true,Bool.and_eq_true]at h;exact h.2.1
  rw [if_neg h3]at h;cases h
 have hc:=zkp hg
 have v0:zgL ([]:Str)=true:=by decide
 constructor
 ·have h1:=zvi (zow t a) t.fIdxs (zkQ t a)
  rw [zmH]at h1
  unfold ztd
  omega
 ·refine zw4 _ _ (fun x hx o hm=> ?_) (fun o hm=> ?_)
  ·have hx1:=(ztj hg hx).1
   unfold zoC zoF zrz at hm
   rcases List.mem_append.1 hm with hm|hm
   ·split at hm
    ·rename_i q
     rw [List.mem_singleton]at hm
     subst hm
     refine⟨?_,v0,rfl,by simp,fun _=>rfl⟩
     show zcD (zBX t a x)=true
     unfold zBX at q ⊢
     by_cases h1:a.fKind=1
     ·rw [if_pos h1]at q;exact absurd rfl q.1
     ·rw [if_neg h1];exact zsG hg hx1 (ho h1)
    ·simp at hm
   ·split at hm
    ·rename_i q
     rw [List.mem_singleton]at hm
     subst hm
     refine⟨?_,v0,rfl,by simp,fun _=>rfl⟩
     show zcD (zAv t a x)=true
     unfold zAv at q ⊢
     by_cases h1:a.fKind=2
     ·rw [if_pos h1]at q;exact absurd rfl q.1
     ·rw [if_neg h1];exact zsG hg hx1 (hn h1)
    ·simp at hm
  ·unfold zkQ at hm
   split at hm
   ·rename_i q
    have w:=zpA hg (hn (by omega))
    simp only [List.mem_cons,List.not_mem_nil,or_false]at hm
    rcases hm with rfl|rfl
    ·exact⟨w.1,v0,rfl,by simp,fun _=>rfl⟩
    ·exact⟨w.1,w.2,rfl,by simp,fun k=>by simp at k⟩
   ·rename_i q1
    have w1:=zpA hg (ho q1)
    split at hm
    ·simp only [List.mem_cons,List.not_mem_nil,or_false]at hm
     rcases hm with rfl|rfl
     ·exact⟨w1.1,w1.2,rfl,by simp,fun k=>by simp at k⟩
     ·exact⟨w1.1,v0,rfl,by simp,fun _=>rfl⟩
    ·rename_i q2
     have w2:=zpA hg (hn q2)
     simp only [List.mem_cons,List.not_mem_nil,or_false]at hm
     rcases hm with rfl|rfl
     ·exact⟨w1.1,w1.2,rfl,by simp,fun k=>by simp at k⟩
     ·exact⟨w1.1,w2.2,rfl,by simp,fun k=>by simp at k⟩
theorem zlr {l:List zaa} (h:zc1 l=true):zre l∧ ∀w∈l,w.fGone=false:=by
 unfold zc1 at h
 rw [Bool.and_eq_true]at h
 have hr:=zpO h.1
 have h1:=h.1
 unfold zd1 at h1
 simp only [Bool.and_eq_true,decide_eq_true_eq]at h1
 exact⟨⟨hr,by omega,List.all_eq_true.1 h1.2.1⟩,fun w hw=>by simpa using List.all_eq_true.1 h.2 w hw⟩
theorem zql {l:List zaa} (hr:zlq l) (hg: ∀w∈l,zhW w=true) (hn: ∀w∈l,w.fGone=false):zc1 l=decide ((l.length:Int)≤24):=by
 have h1:zmp (l.map (·.fKey))=true:=by
  rw [zmN,zlV]
  exact(znn (r:=fun a b:zaa=>bl a.fKey b.fKey) fun a b c p q=>zgr p q).2 hr
 unfold zc1 zd1
 rw [h1,List.all_eq_true.2 hg,show(l.all fun w=> !w.fGone)=true from List.all_eq_true.2 fun w hw=>by rw [hn w hw];rfl]
 simp
theorem zkO {l:List zaa} (hl:l.length≤2000000) (hg: ∀w∈l,zhW w=true):zpT l:=
 ⟨hl,fun w hw=>⟨by have:=zu2 (hg w hw);omega,by have:=zng (hg w hw);omega⟩⟩
def zf6 (rows ws:List zaa):List zaa:=(ws.foldl (fun o w=>zmi wk w o) rows).filter fun w=> !w.fGone
theorem zAc: ∀(ws:List zaa) {n:Nat} {rows:List zaa},zrB n rows→(∀w∈ws,zhW w=true)→zrB (n+ws.length) (ws.foldl (fun o w=>zmi wk w o) rows)
 | [],n,rows,h,_=>h
 |w::ws,n,rows,h,hw=>by
  have:=zAc ws (ziM h (hw w (by simp))) fun y hy=>hw y (by simp [hy])
  exact⟨this.rise,by have:=this.len;rw [List.length_cons];rw [List.foldl_cons];omega,this.good⟩
theorem zuV {rows ws:List zaa} (hr:zre rows) (hw:zrB 8 ws):zlq (zf6 rows ws)∧(zf6 rows ws).length≤32∧(∀w∈zf6 rows ws,zhW w=true)∧ ∀w∈zf6 rows ws,w.fGone=false:=by
 have h:=zAc ws (n:=24) (rows:=rows) ⟨hr.rise,hr.len,hr.good⟩ hw.good
 have hl:=hw.len
 unfold zf6
 refine⟨zrl.filter h.rise _,Nat.le_trans (List.length_filter_le _ _) (by have:=h.len;omega),fun w hm=>h.good w (List.mem_filter.1 hm).1,fun w hm=>by simpa using(List.mem_filter.1 hm).2⟩
theorem zxu {rows ws:List zaa} (hr:zre rows) (hw:zrB 8 ws):zhK rows ws=some (if(zf6 rows ws).length>24 then([],false)else(zf6 rows ws,true)):=by
 have hrl:=hr.len
 have hwl:=hw.len
 have hc:zax rows=some rows:=zlX (by omega) (by omega)
 unfold zhK
 rw [hc,Option.bind_some]
 have h1:=zbN (xs:=ws) (body:=fun s:Int × List zaa=>zdd ws s.1 s.2) (fun i (o:List zaa)=>(i,o)) (fun o w=>zmi wk w o) (fun o=>zhj o) (fun i o=>zrB (24+i) o)
  (fun i hi o hI=>by
   have hI:zrB (24+i) o:=hI
   have hol:=hI.len
   refine⟨?_,ziM hI (hw.good _ (List.getElem_mem hi))⟩
   show zdd ws i o=_
   unfold zdd
   rw [if_pos (by simpa using hi),zac hi,Option.bind_some,zom (by omega) hI.rise,Option.bind_some,zaN hi (by omega)])
  (fun o hI=>by
   show zdd ws ws.length o=_
   unfold zdd
   rw [if_neg (by simp)]) (s:=rows) ⟨hr.rise,hr.len,hr.good⟩
 rw [h1.1]
 have hK:zrB (24+ws.length) (ws.foldl (fun o w=>zmi wk w o) rows):=h1.2
 have hkl:=hK.len
 unfold zhj ze6
 rw [zad (by omega),zn3 (p:=fun y0_=>zia y0_) (fun w:zaa=>w.fGone) (fun w _=>rfl),Option.bind_some]
 show(if decide (((zf6 rows ws).length:Int)>24)=true then _ else _)=_
 by_cases hq:(zf6 rows ws).length>24
 ·rw [if_pos (decide_eq_true (by omega)),if_pos hq]
 ·rw [if_neg (by rw [decide_eq_true_eq];omega),if_neg hq];rfl
theorem zx7 {rows ws:List zaa} (hr:zre rows) (hw:zrB 8 ws):zfN rows ws=some (zf6 rows ws):=by
 have hrl:=hr.len
 have hwl:=hw.len
 have hq:((([]:List zaa).length:Int)+((rows).length:Int))*40≤140737488355328∧(([]:List zaa).length:Int)+((rows).length:Int)≤140737488355328:=by
  rw [List.length_nil];omega
 unfold zfN
 rw [zad hq]
 have h1:=zbN (xs:=ws) (body:=fun s:Int × List zaa=>zcm ws s.1 s.2) (fun i (o:List zaa)=>(i,o)) (fun o w=>zmi wk w o) (fun o=>zfW o) (fun i o=>zrB (24+i) o)
  (fun i hi o hI=>by
   have hI:zrB (24+i) o:=hI
   have hol:=hI.len
   refine⟨?_,ziM hI (hw.good _ (List.getElem_mem hi))⟩
   show zcm ws i o=_
   unfold zcm
   rw [if_pos (by simpa using hi),zac hi,Option.bind_some,zwn (by omega) hI.rise,Option.bind_some,zaN hi (by omega)])
  (fun o hI=>by
   show zcm ws ws.length o=_
   unfold zcm
   rw [if_neg (by simp)]) (s:=rows) ⟨hr.rise,hr.len,hr.good⟩
 rw [h1.1]
 have hK:zrB (24+ws.length) (ws.foldl (fun o w=>zmi wk w o) rows):=h1.2
 have hkl:=hK.len
 unfold zf6
 generalize ws.foldl (fun o w=>zmi wk w o) rows=l at hkl
 unfold zfW
 have h2:=zbN (xs:=l) (body:=fun s:List zaa × Int=>zch l s.1 s.2) (fun i (o:List zaa)=>(o,i)) (fun o w=>if(!w.fGone)=true then o++ [id w]else o) (fun o=>some o) (fun i o=>o.length≤i)
  (fun i hi o hI=>by
   have hI:o.length≤i:=hI
   have hr:(((o).length:Int)+(([l[i]]:List zaa).length:Int))*40≤140737488355328∧((o).length:Int)+(([l[i]]:List zaa).length:Int)≤140737488355328:=by
    rw [List.length_singleton];omega
   refine⟨?_,by show List.length _≤_;split;rw [List.length_append,List.length_singleton];omega;omega⟩
   show zch l o i=_
   unfold zch
   rw [if_pos (by simpa using hi),zac hi,Option.bind_some,zaN hi (by omega)]
   cases(!(l[i]).fGone)with
   |false=>rfl
   |true=>rw [if_pos rfl,zad hr];rfl)
  (fun o _=>by
   show zch l o l.length=_
   unfold zch
   rw [if_neg (by simp)]) (s:= []) (Nat.le_refl _)
 refine h2.1.trans ?_
 rw [ziU (fun w:zaa=> !w.fGone) id l []]
 simp
def zn4 (st:List zaa) (ops:List DOp):List zaa × Bool:=if(zmK st ops).2=true∧(zf6 st (zmK st ops).1).length≤24 then(zf6 st (zmK st ops).1,true)else(st,false)
theorem zAa {st:List zaa} {ops:List DOp} (hl:ops.length≤8) (ho: ∀o∈ops,OkO o) (hg:zc1 st=true):ziI st ops=some (zn4 st ops):=by
 obtain⟨hr,_⟩:=zlr hg
 obtain⟨⟨g,e⟩,_,hw⟩:=zvI hl ho hr
 have hrl:=hr.len
 have hq:((([]:List zaa).length:Int)+((st).length:Int))*40≤140737488355328∧(([]:List zaa).length:Int)+((st).length:Int)≤140737488355328:=by
  rw [List.length_nil];omega
 unfold ziI zn4
 rw [e,Option.bind_some,zxu hr hw,Option.bind_some]
 cases h1:(zmK st ops).2 with
 |false=>rw [if_pos (by simp),zad hq,if_neg (by simp)]
 |true=>
  by_cases h2:(zf6 st (zmK st ops).1).length>24
  ·rw [if_pos h2,if_pos (by simp),zad hq,if_neg (by omega)]
  ·rw [if_neg h2,if_neg (by simp),if_pos ⟨rfl,by omega⟩]
theorem zx5 {ops:List DOp} (hl:ops.length≤8) (ho: ∀o∈ops,OkO o):ziJ ops=some true:=by
 have h1: ∀o:DOp,OkO o→zkq o=some true:=by
  intro o h
  have hk:=zuu h.key
  have hv:=zuo h.val
  unfold zkq zjF
  rw [zCd (by omega),Option.bind_some,h.key,if_neg (by simp)]
  rcases h.kind with k|k|k|k
  ·rw [k];simp [zAi (s:=o.fVal) (by omega),h.val,h.by_]
  ·have:=h.none (.inl k);rw [k];simp [this,h.by_]
  ·have:=h.none (.inr k);rw [k];simp [this,h.by_]
  ·rw [k];simp [zAi (s:=o.fVal) (by omega),h.val,h.by_]
 unfold ziJ
 rw [zit (xs:=ops) (body:=fun s:Int=>zdy ops s) (fun _=>true) false (zih ops) (fun i hi=>by
  show zdy ops i=_
  unfold zdy
  rw [if_pos (by simpa using hi),zac hi,Option.bind_some,h1 _ (ho _ (List.getElem_mem hi)),Option.bind_some,if_neg (by simp),zaN hi (by omega),if_pos rfl]) (by
  show zdy ops ops.length=_
  unfold zdy
  rw [if_neg (by simp)]),if_pos (List.all_eq_true.2 fun _ _=>rfl)]
 unfold zih
 simp;omega
theorem zFt {st:List zaa} {ops:List DOp} (hl:ops.length≤8) (ho: ∀o∈ops,OkO o) (hg:zc1 st=true):zjr st ops=some (zn4 st ops):=by
 obtain⟨hr,_⟩:=zlr hg
 obtain⟨_,⟨g,e⟩,hw⟩:=zvI hl ho hr
 have hrl:=hr.len
 have hq:((([]:List zaa).length:Int)+((st).length:Int))*40≤140737488355328∧(([]:List zaa).length:Int)+((st).length:Int)≤140737488355328:=by
  rw [List.length_nil];omega
 have hqb: ∀b:Bool,((([]:List Bool).length:Int)+(([b]:List Bool).length:Int))*1≤140737488355328∧(([]:List Bool).length:Int)+(([b]:List Bool).length:Int)≤140737488355328:=by
  intro b;rw [List.length_nil,List.length_singleton];omega
 obtain⟨p1,p2,p3,p4⟩:=zuV hr hw
 have hv7:zcX (zf6 st (zmK st ops).1)=some (decide (((zf6 st (zmK st ops).1).length:Int)≤24)):=by
  rw [zqC (zkO (by omega) p3),zql p1 p3 p4]
 have hw1:IntKind.i64.wrap ((0:Int)+1)=1:=by decide
 have key:zfM st [ops]=some ((zn4 st ops).1, [(zn4 st ops).2],true):=by
  unfold zfM
  rw [zqC (zkO (by omega) hr.good),Option.bind_some,hg,if_neg (by simp)]
  have b0:zbH st [ops] 0=some (.inl 1):=by
   unfold zbH
   rw [if_pos (by simp),show zay [ops] 0=some ops from rfl,Option.bind_some,zx5 hl ho,Option.bind_some,if_neg (by simp),hw1]
  have b1:zbH st [ops] 1=some (.inr (zf5 st [ops])):=by
   unfold zbH
   rw [if_neg (by simp)]
  rw [zcf (body:=fun s:Int=>zbH st [ops] s) b0,zbR (body:=fun s:Int=>zbH st [ops] s) b1]
  unfold zf5
  rw [zad hq]
  have c0:zbK [ops] [] 0 st=some (.inl ([(zn4 st ops).2],1,(zn4 st ops).1)):=by
   unfold zbK zn4
   rw [if_pos (by simp),show zay [ops] 0=some ops from rfl,Option.bind_some,e,Option.bind_some,zx7 hr hw,Option.bind_some]
   cases h1:(zmK st ops).2 with
   |false=>rw [if_neg (by simp),zad (hqb _),if_neg (by simp),hw1];rfl
   |true=>
    rw [if_pos rfl,hv7,Option.bind_some]
    by_cases h2:(zf6 st (zmK st ops).1).length≤24
    ·have h3:decide (((zf6 st (zmK st ops).1).length:Int)≤24)=true:=by simp;omega
     rw [h3,if_pos rfl,zad (hqb _),if_pos ⟨rfl,h2⟩,hw1];rfl
    ·have h3:decide (((zf6 st (zmK st ops).1).length:Int)≤24)=false:=by simp;omega
     rw [h3,if_neg (by simp),zad (hqb _),if_neg (by omega),hw1];rfl
  have c1: ∀(bs:List Bool) (l:List zaa),zbK [ops] bs 1 l=some (.inr (some (l,bs,true))):=by
   intro bs l
   unfold zbK
   rw [if_neg (by simp)]
  rw [zcf (body:=fun s:List Bool × Int × List zaa=>zbK [ops] s.1 s.2.1 s.2.2) c0,zbR (body:=fun s:List Bool × Int × List zaa=>zbK [ops] s.1 s.2.1 s.2.2) (c1 _ _)]
 unfold zjr
 rw [key,Option.bind_some,if_pos (by simp)]
 rfl
theorem zBZ {st:List zaa} {ops:List DOp} (hl:ops.length≤8) (ho: ∀o∈ops,OkO o) (hg:zc1 st=true):zc1 (zn4 st ops).1=true:=by
 obtain⟨hr,_⟩:=zlr hg
 obtain⟨_,_,hw⟩:=zvI hl ho hr
 obtain⟨p1,p2,p3,p4⟩:=zuV hr hw
 unfold zn4
 split
 ·rename_i h
  show zc1 (zf6 st (zmK st ops).1)=true
  rw [zql p1 p3 p4]
  have:=h.2
  simp;omega
 ·exact hg
end Go.Proofs.YtgobcjbjogkpjaaGreatDoor
end
section
namespace Go.Proofs.YtgobcjbjogkpjaaGreatDoor
open Go.RowKit
set_option maxRecDepth 100000
theorem zoj {α:Type}: ∀(xs a:List α),xs.foldl (fun o x=>o++ [x]) a=a++xs
 | [],a=>by simp
 |x::xs,a=>by rw [List.foldl_cons,zoj xs (a++ [x])];simp
theorem zCb {o p:List zab} (h:o.length≤2000001) (hn:p.length≤5):((o.length:Int)+(p.length:Int))*64≤140737488355328∧(o.length:Int)+(p.length:Int)≤140737488355328:=by omega
theorem zww {s:zag} (hS:ziY s):zeB s=some s:=by
 have h1:=hS.at_
 have h2:=hS.store.1
 have h3:=hS.ways
 have c1:zdR s.fAt=some s.fAt:=zlX (by omega) (by omega)
 have c2:zax s.fStore=some s.fStore:=zlX (by omega) (by omega)
 unfold zeB
 rw [c1,c2,Option.bind_some,Option.bind_some]
 have h:=zbN (xs:=s.fWays) (body:=fun q:Int × List zab=>zcn s s.fAt s.fStore q.1 q.2) (fun i (o:List zab)=>(i,o)) (fun o t=>o++ [t]) (fun o=>some ⟨s.fName,o,s.fAt,s.fStore⟩) (fun i o=>o.length=i)
  (fun i hi o hI=>by
   have hI:o.length=i:=hI
   refine⟨?_,by show List.length _=_;rw [List.length_append,List.length_singleton];omega⟩
   show zcn s s.fAt s.fStore i o=_
   unfold zcn
   rw [if_pos (by simpa using hi),zac hi,Option.bind_some,zv8 (hS.way _ (List.getElem_mem hi)),Option.bind_some,zad (zCb (by omega) (by simp)),zaN hi (by omega)])
  (fun o _=>by
   show zcn s s.fAt s.fStore s.fWays.length o=_
   unfold zcn
   rw [if_neg (by simp)]) (s:= []) rfl
 rw [zoj]at h
 exact h.1
theorem zAg {s:zag} (hS:ziY s):zgH s=some s:=by
 have h1:=hS.at_
 have h2:=hS.store.1
 have h3:=hS.ways
 have c1:zju s.fAt=some s.fAt:=by
  unfold zju
  rw [zad (by rw [List.length_nil];omega)]
 have hq:((([]:List zaa).length:Int)+((s.fStore).length:Int))*40≤140737488355328∧(([]:List zaa).length:Int)+((s.fStore).length:Int)≤140737488355328:=by
  rw [List.length_nil];omega
 unfold zgH
 rw [c1,Option.bind_some,zad hq]
 have h:=zbN (xs:=s.fWays) (body:=fun q:Int × List zab=>zdA s s.fAt q.1 q.2) (fun i (o:List zab)=>(i,o)) (fun o t=>o++ [t]) (fun o=>some ⟨s.fName,o,s.fAt,s.fStore⟩) (fun i o=>o.length=i)
  (fun i hi o hI=>by
   have hI:o.length=i:=hI
   refine⟨?_,by show List.length _=_;rw [List.length_append,List.length_singleton];omega⟩
   show zdA s s.fAt i o=_
   unfold zdA
   rw [if_pos (by simpa using hi),zac hi,Option.bind_some,zz9 (hS.way _ (List.getElem_mem hi)),Option.bind_some,zad (zCb (by omega) (by simp)),zaN hi (by omega)])
  (fun o _=>by
   show zdA s s.fAt s.fWays.length o=_
   unfold zdA
   rw [if_neg (by simp)]) (s:= []) rfl
 rw [zoj]at h
 exact h.1
def zFT (a:zaz):Bool:=((a.fKind==0)&&((a.fOld.fVals.length:Int)==0))&&((a.fNew.fVals.length:Int)==0)
structure zE7 (s:zag) (a:zaf):Prop where
 srv:0≤a.fServer∧a.fServer≤(s.fAt.length:Int)-1
 step:a.fStep=0∨a.fStep=1∨a.fStep= -1
 act:a.fStep=0→ ∃y t,zay s.fAt a.fServer=some y∧zay s.fWays y=some t∧t∈s.fWays∧zi9 t a.fAct=true
theorem zn9 {t:zab} {n:Str} (h:zm5 t n=true):zar t=true:=by
 unfold zm5 at h
 simp only [Bool.and_eq_true]at h
 exact h.1
theorem zwu {s:zag} (hg:zmG s) {i:Int} (h:0≤i∧i≤(s.fAt.length:Int)-1): ∃y t,zay s.fAt i=some y∧zay s.fWays y=some t∧t∈s.fWays∧0≤y∧y≤(s.fWays.length:Int)-1:=by
 obtain⟨y,e1,hy,_⟩:=zoo (xs:=s.fAt) h.1 (by omega)
 have hb:=hg.2.2.2.2.2.1 y hy
 obtain⟨t,e2,ht,_⟩:=zoo (xs:=s.fWays) hb.1 (by omega)
 exact⟨y,t,e1,e2,ht,hb.1,hb.2⟩
def zlK (s:zag) (t:zab) (a:zaf):Bool:=
 inB a.fServer 0 ((s.fAt.length:Int)-1)&&(if a.fStep=0 then zi9 t a.fAct else if a.fStep=1∨a.fStep= -1 then zFT a.fAct else false)
def zsQ (s:zag) (i:Int):zab:=(zay s.fWays ((zay s.fAt i).getD 0)).getD noT
theorem zxq {s:zag} {a:zaf} (hg:zmG s) (hA:zj3 a.fAct):zfE s a=some (zlK s (zsQ s a.fServer) a):=by
 have h3:=zbb.1 hg.2.2.2.2.1
 have w:IntKind.i64.wrap ((s.fAt.length:Int)-1)=(s.fAt.length:Int)-1:=zaC (by omega) (by omega)
 unfold zfE zlK
 rw [w,zlg,Option.bind_some]
 cases hv:inB a.fServer 0 ((s.fAt.length:Int)-1)with
 |false=>rfl
 |true=>
  obtain⟨y,t,e1,e2,ht,_,_⟩:=zwu hg (zbb.1 hv)
  have hc:=zkp (zn9 (hg.2.2.1 t ht))
  have et:zsQ s a.fServer=t:=by unfold zsQ;rw [e1,Option.getD_some,e2];rfl
  rw [et,if_neg (by simp),Bool.true_and]
  by_cases h0:a.fStep=0
  ·rw [if_neg (by simp [h0]),if_pos (by simpa using h0),if_pos h0,e1,Option.bind_some,e2,Option.bind_some,zsp (by omega) hA];rfl
  ·rw [if_neg h0]
   by_cases h1:a.fStep=1∨a.fStep= -1
   ·rw [if_pos (by simpa using h1),if_pos h1];rfl
   ·rw [if_neg (by simpa using h1),if_neg h1,if_neg (by simpa using h0)]
theorem zx2 {s:zag} {a:zaf} (hg:zmG s) (hA:zj3 a.fAct):zbA s a=some (zlK s (zsQ s a.fServer) a):=by
 have h3:=zbb.1 hg.2.2.2.2.1
 have w:IntKind.i64.wrap ((s.fAt.length:Int)-1)=(s.fAt.length:Int)-1:=zaC (by omega) (by omega)
 unfold zbA zlK
 rw [w,zhx,Option.bind_some]
 cases hv:inB a.fServer 0 ((s.fAt.length:Int)-1)with
 |false=>rfl
 |true=>
  obtain⟨y,t,e1,e2,ht,_,_⟩:=zwu hg (zbb.1 hv)
  have hc:=zkp (zn9 (hg.2.2.1 t ht))
  have et:zsQ s a.fServer=t:=by unfold zsQ;rw [e1,Option.getD_some,e2];rfl
  have ht2:zaF s a.fServer=some t:=by
   unfold zaF
   rw [e1,Option.bind_some,e2];rfl
  rw [et,if_neg (by simp),Bool.true_and]
  by_cases h0:a.fStep=0
  ·rw [if_pos (by simpa using h0),if_pos h0,ht2,Option.bind_some,zxr (by omega) hA];rfl
  ·rw [if_neg (by simpa using h0),if_neg h0]
   by_cases h1:a.fStep=1
   ·rw [if_pos (by simpa using h1),if_pos (.inl h1)];rfl
   ·rw [if_neg (by simpa using h1)]
    by_cases h2:a.fStep= -1
    ·rw [if_pos (by simpa using h2),if_pos (.inr h2)];rfl
    ·rw [if_neg (by simpa using h2),if_neg (by simp [h1,h2])]
theorem zEq {s:zag} {a:zaf} (hg:zmG s) (h:zlK s (zsQ s a.fServer) a=true):zE7 s a:=by
 unfold zlK at h
 rw [Bool.and_eq_true]at h
 have hv:=zbb.1 h.1
 obtain⟨y,t,e1,e2,ht,_,_⟩:=zwu hg hv
 have et:zsQ s a.fServer=t:=by unfold zsQ;rw [e1,Option.getD_some,e2];rfl
 have h2:=h.2
 rw [et]at h2
 by_cases h0:a.fStep=0
 ·rw [if_pos h0]at h2
  exact⟨hv, .inl h0,fun _=>⟨y,t,e1,e2,ht,h2⟩⟩
 ·rw [if_neg h0]at h2
  by_cases h1:a.fStep=1∨a.fStep= -1
  ·exact⟨hv, .inr h1,fun h=>absurd h h0⟩
  ·rw [if_neg h1]at h2;cases h2
theorem zu3 {s:zag} {a:zaf} (hg:zmG s) (hA:zj3 a.fAct): ∃r,zfE s a=some r∧zbA s a=some r∧(r=true→zE7 s a):=
 ⟨_,zxq hg hA,zx2 hg hA,zEq hg⟩
structure zl9 (s r:zag):Prop where
 good:zmG r
 small:ziY r
 name:r.fName=s.fName
 ways:r.fWays=s.fWays
 at_:r.fAt.length=s.fAt.length
theorem zvh {s:zag} {a:zaf} (hS:ziY s) (hg:zmG s) (hA:zj3 a.fAct) (hact:zE7 s a): ∃r:zag × Bool,zfd s a=some r∧zbF s a=some r∧zl9 s r.1:=by
 obtain⟨y,t,e1,e2,ht,hy0,hy1⟩:=zwu hg hact.srv
 have h1:=hg.1
 have h4:=hg.2.1
 have w:IntKind.i64.wrap ((s.fWays.length:Int)-1)=(s.fWays.length:Int)-1:=zaC (by omega) (by omega)
 unfold zfd zbF
 rw [zAg hS,zww hS,Option.bind_some,Option.bind_some,w]
 by_cases h0:a.fStep=0
 ·obtain⟨y',t',q1,q2,q3,hga⟩:=hact.act h0
  rw [e1]at q1
  cases q1
  rw [e2]at q2
  cases q2
  have hI:=hg.2.2.1 t ht
  have hgt:=zn9 hI
  have hc:=zkp hgt
  have hSt:=hS.way t ht
  have hai:=zEm hA hga
  have hR:=hg.2.2.2.2.2.2
  obtain⟨ol,oo⟩:=zA7 hgt hga
  have ht2:zaF s a.fServer=some t:=by
   unfold zaF
   rw [e1,Option.bind_some,e2];rfl
  have hD:zjl t s.fStore a.fAct=some ((zn4 s.fStore (ztd t a.fAct)).1,(zn4 s.fStore (ztd t a.fAct)).2,true):=by
   have hGA:zhM t a.fAct=some true:=by
    unfold zhM
    rw [znh hSt,Option.bind_some,hgt,if_pos rfl,zsp (by omega) hA,hga];rfl
   unfold zjl
   rw [hGA,Option.bind_some,if_pos rfl,zqC hS.store,Option.bind_some,hR,if_neg (by simp),zED hSt hgt hai,Option.bind_some,zFt ol oo hR];rfl
  have hgo:=zBZ ol oo hR
  rw [if_neg (by simp [h0]),if_neg (by simp [h0]),e1,Option.bind_some,e2,Option.bind_some,hD,ht2,Option.bind_some,Option.bind_some,zEb hSt hgt hai,Option.bind_some,zAa ol oo hR,Option.bind_some]
  refine⟨_,rfl,rfl,⟨⟨hg.1,hg.2.1,hg.2.2.1,hg.2.2.2.1,hg.2.2.2.2.1,hg.2.2.2.2.2.1,hgo⟩,⟨hS.name,hS.ways,hS.way,hS.at_, ?_⟩,rfl,rfl,rfl⟩⟩
  have hr:=(zlr hgo).1
  have hrl:=hr.len
  exact zkO (by show(zn4 s.fStore (ztd t a.fAct)).1.length≤2000000;omega) hr.good
 ·have hst:a.fStep=1∨a.fStep= -1:=by rcases hact.step with h|h|h;exact absurd h h0;exact .inl h;exact .inr h
  have w2:IntKind.i64.wrap (y+a.fStep)=y+a.fStep:=zaC (by omega) (by omega)
  rw [if_pos (by simpa using h0),if_pos (by simpa using h0)]
  simp only [e1,Option.bind_some,w2,zlg,zhx]
  cases hv:inB (y+a.fStep) 0 ((s.fWays.length:Int)-1)with
  |false=>exact⟨_,rfl,rfl,⟨hg,hS,rfl,rfl,rfl⟩⟩
  |true=>
   have hv2:=zbb.1 hv
   refine⟨_,rfl,rfl,⟨⟨hg.1,hg.2.1,hg.2.2.1,hg.2.2.2.1, ?_,fun z hz=> ?_,hg.2.2.2.2.2.2⟩,⟨hS.name,hS.ways,hS.way, ?_,hS.store⟩,rfl,rfl,List.length_set⟩⟩
   ·show inB (((s.fAt.set (a.fServer).toNat (y+a.fStep)).length:Nat):Int) 1 3=true
    rw [List.length_set];exact hg.2.2.2.2.1
   ·rcases List.mem_or_eq_of_mem_set hz with hz|rfl
    ·exact hg.2.2.2.2.2.1 z hz
    ·exact hv2
   ·show(s.fAt.set (a.fServer).toNat (y+a.fStep)).length≤2000000
    rw [List.length_set];exact hS.at_
def zDH:zag:=⟨[], [], [], []⟩
end Go.Proofs.YtgobcjbjogkpjaaGreatDoor
end
section
namespace Go.Proofs.YtgobcjbjogkpjaaGreatDoor
open Go.RowKit
set_option maxRecDepth 100000
theorem zzq {α:Type} {f:α→Nat} {n:Nat}: ∀{l:List α},(∀x∈l,f x≤n)→(l.map f).sum≤n*l.length
 | [],_=>by simp
 |x::l,h=>by
  have h1:=h x (by simp)
  have h2:=zzq (f:=f) (n:=n) (l:=l) fun y hy=>h y (by simp [hy])
  rw [List.map_cons,List.sum_cons,List.length_cons,Nat.mul_add];omega
theorem zn5 {xs:List Str} (h:za2 xs≤2000000):Small xs:=by
 have e: ∀l:List Str,zef l=(l.map (fun x:List UInt8=>x.length)).sum:=by
  intro l
  induction l with
  |nil=>rfl
  |cons s l ih=>simp only [zef,List.map_cons,List.sum_cons,ih]
 unfold za2 at h
 exact⟨by omega,by rw [e];omega⟩
theorem zxx {t:zab} (h:za5 t≤2000000):zdr t:=by
 unfold za5 zen at h
 have hs:=zn5 (xs:=t.fCols) (by omega)
 refine⟨by omega,by have:=hs.1;omega,hs.each,by omega,fun x hx=> ?_⟩
 have h1:=zeu (tot:=zif) hx
 have e:zif x=x.fName.length:=rfl
 omega
theorem zyy {s:zag} (h:za0 s≤2000000):ziY s:=by
 unfold za0 at h
 have h1:zbx s.fWays≤2000000:=by omega
 have h2:zeV s.fAt≤2000000:=by omega
 have h3:zbv s.fStore≤2000000:=by omega
 refine⟨by omega,by unfold zbx at h1;omega,fun t ht=>zxx ?_,by unfold zeV at h2;omega,by unfold zbv at h3;omega,fun w hw=> ?_⟩
 ·have:=zeu (tot:=za5) ht
  unfold zbx at h1
  omega
 ·have:=zeu (tot:=zdJ) hw
  have e:zdJ w=w.fKey.length+w.fVal.length:=rfl
  unfold zbv at h3
  omega
theorem zz4 {a:zaf} (h:zaB a≤2000000):zj3 a.fAct:=by
 unfold zaB zc6 zik at h
 exact⟨zn5 (by omega),zn5 (by omega)⟩
theorem zBM {l:List zaa} (h:zc1 l=true):zbv l≤2000:=by
 obtain⟨hr,_⟩:=zlr h
 have hl:=hr.len
 have:=zzq (f:=zdJ) (n:=36) (l:=l) fun w hw=>by
  have h1:=zu2 (hr.good w hw)
  have h2:=zng (hr.good w hw)
  unfold zdJ
  omega
 unfold zbv
 omega
theorem zBN {s r:zag} (h:zl9 s r):za0 r≤za0 s+2000:=by
 have h1:=zBM h.good.2.2.2.2.2.2
 have h2:=h.at_
 unfold za0
 rw [h.name,h.ways]
 unfold zeV
 omega
theorem zBG {s r:zag} (h:r=zDH∨zl9 s r):za0 r≤za0 s+2000:=by
 rcases h with rfl|h
 ·have:za0 zDH=0:=rfl
  omega
 ·exact zBN h
end Go.Proofs.YtgobcjbjogkpjaaGreatDoor
end
section
namespace Go.Proofs.YtgobcjbjogkpjaaGreatDoor
open Go.RowKit
set_option maxRecDepth 100000
def zvx (l:List Int):Bool:=l.all fun x=>l.all fun y=> !decide (x-y>1)
theorem zBt {l:List Int} (hl:l.length≤2000000) (hb: ∀y∈l,0≤y∧y≤3):zgJ l=some (zvx l):=by
 unfold zgJ
 have hin: ∀(i:Nat) (hi:i<l.length),zal (fun s:Int=>zb2 l i l[i] s) 0=some (if(l.all fun y=> !decide (l[i]-y>1))=true then .inl ((i+1:Nat):Int)else .inr (some false)):=by
  intro i hi
  have hx:=hb _ (List.getElem_mem hi)
  rw [zit (xs:=l) (body:=fun s:Int=>zb2 l i l[i] s) (fun y=> !decide (l[i]-y>1)) (.inr (some false)) (zgm i) (fun j hj=>by
   have hy:=hb _ (List.getElem_mem hj)
   have w:IntKind.i64.wrap (l[i]-l[j])=l[i]-l[j]:=zaC (by omega) (by omega)
   show zb2 l i l[i] j=_
   unfold zb2
   rw [if_pos (by simpa using hj),zac hj,Option.bind_some,w,zaN hj (by omega)]
   cases decide (l[i]-l[j]>1)<;>rfl) (by
   show zb2 l i l[i] l.length=_
   unfold zb2
   rw [if_neg (by simp)])]
  unfold zgm
  rw [zaN hi (by omega)]
  split<;>rfl
 rw [zit (xs:=l) (body:=fun s:Int=>zcP l s) (fun x=>l.all fun y=> !decide (x-y>1)) false (some true) (fun i hi=>by
  show zcP l i=_
  unfold zcP
  rw [if_pos (by simpa using hi),zac hi,Option.bind_some]
  exact hin i hi) (by
  show zcP l l.length=_
  unfold zcP
  rw [if_neg (by simp)])]
 unfold zvx
 cases(l.all fun x=>l.all fun y=> !decide (x-y>1))<;>rfl
def zB3 (a:Int) (l:List Int):Int:=l.foldl (fun m y=>bif decide (y>m)then y else m) a
def zBy (a:Int) (l:List Int):Int:=l.foldl (fun m y=>bif decide (y<m)then y else m) a
theorem zzg: ∀(l:List Int) (a:Int),zB3 a l∈a::l∧ ∀x∈a::l,x≤zB3 a l
 | [],a=>by simp [zB3]
 |y::l,a=>by
  obtain⟨h1,h2⟩:=zzg l (bif decide (y>a)then y else a)
  have e:zB3 a (y::l)=zB3 (bif decide (y>a)then y else a) l:=rfl
  rw [e]
  have ha:a≤(bif decide (y>a)then y else a)∧y≤(bif decide (y>a)then y else a):=by
   by_cases h:y>a
   ·rw [decide_eq_true h];exact⟨by simp;omega,by simp⟩
   ·rw [decide_eq_false h];exact⟨by simp,by simp;omega⟩
  have hm:=h2 _ (List.mem_cons_self)
  refine⟨?_,fun x hx=> ?_⟩
  ·rcases List.mem_cons.1 h1 with h|h
   ·rw [h]
    by_cases hc:y>a
    ·rw [decide_eq_true hc];simp
    ·rw [decide_eq_false hc];simp
   ·simp [h]
  ·rcases List.mem_cons.1 hx with rfl|hx
   ·omega
   ·rcases List.mem_cons.1 hx with rfl|hx
    ·omega
    ·exact h2 x (by simp [hx])
theorem zyE: ∀(l:List Int) (a:Int),zBy a l∈a::l∧ ∀x∈a::l,zBy a l≤x
 | [],a=>by simp [zBy]
 |y::l,a=>by
  obtain⟨h1,h2⟩:=zyE l (bif decide (y<a)then y else a)
  have e:zBy a (y::l)=zBy (bif decide (y<a)then y else a) l:=rfl
  rw [e]
  have ha:(bif decide (y<a)then y else a)≤a∧(bif decide (y<a)then y else a)≤y:=by
   by_cases h:y<a
   ·rw [decide_eq_true h];exact⟨by simp;omega,by simp⟩
   ·rw [decide_eq_false h];exact⟨by simp,by simp;omega⟩
  have hm:=h2 _ (List.mem_cons_self)
  refine⟨?_,fun x hx=> ?_⟩
  ·rcases List.mem_cons.1 h1 with h|h
   ·rw [h]
    by_cases hc:y<a
    ·rw [decide_eq_true hc];simp
    ·rw [decide_eq_false hc];simp
   ·simp [h]
  ·rcases List.mem_cons.1 hx with rfl|hx
   ·omega
   ·rcases List.mem_cons.1 hx with rfl|hx
    ·omega
    ·exact h2 x (by simp [hx])
theorem zER {l:List Int} {a:Int} (hl:l.length≤2000000):zcY (a::l)=some (zB3 a l):=by
 have key: ∀(n q:Nat) (m:Int),q+n=(a::l).length→zal (fun s:Int × Int=>zaK (a::l) s.1 s.2) (m,(q:Int))=some (zB3 m ((a::l).drop q)):=by
  intro n
  induction n with
  |zero=>
   intro q m hq
   rw [List.drop_eq_nil_of_le (by omega)]
   refine zbR ?_
   show zaK (a::l) m q=_
   unfold zaK
   rw [if_neg (by rw [decide_eq_true_eq];omega)]
   rfl
  |succ n ih=>
   intro q m hq
   have hlt:q<(a::l).length:=by omega
   have hll:(a::l).length=l.length+1:=List.length_cons
   have e:zaK (a::l) m q=some (.inl ((bif decide ((a::l)[q]>m)then(a::l)[q]else m),((q+1:Nat):Int))):=by
    unfold zaK
    rw [if_pos (decide_eq_true (by omega)),zac hlt,Option.bind_some,zaN hlt (by omega)]
   rw [zcf (body:=fun s:Int × Int=>zaK (a::l) s.1 s.2) e,ih (q+1) _ (by omega),List.drop_eq_getElem_cons hlt]
   rfl
 unfold zcY
 rw [if_neg (by rw [decide_eq_true_eq,List.length_cons];omega),show zay (a::l) 0=some a from rfl,Option.bind_some]
 exact key l.length 1 a (by rw [List.length_cons];omega)
theorem zEZ {l:List Int} {a:Int} (hl:l.length≤2000000):zc2 (a::l)=some (zBy a l):=by
 have key: ∀(n q:Nat) (m:Int),q+n=(a::l).length→zal (fun s:Int × Int=>zaJ (a::l) s.1 s.2) (m,(q:Int))=some (zBy m ((a::l).drop q)):=by
  intro n
  induction n with
  |zero=>
   intro q m hq
   rw [List.drop_eq_nil_of_le (by omega)]
   refine zbR ?_
   show zaJ (a::l) m q=_
   unfold zaJ
   rw [if_neg (by rw [decide_eq_true_eq];omega)]
   rfl
  |succ n ih=>
   intro q m hq
   have hlt:q<(a::l).length:=by omega
   have hll:(a::l).length=l.length+1:=List.length_cons
   have e:zaJ (a::l) m q=some (.inl ((bif decide ((a::l)[q]<m)then(a::l)[q]else m),((q+1:Nat):Int))):=by
    unfold zaJ
    rw [if_pos (decide_eq_true (by omega)),zac hlt,Option.bind_some,zaN hlt (by omega)]
   rw [zcf (body:=fun s:Int × Int=>zaJ (a::l) s.1 s.2) e,ih (q+1) _ (by omega),List.drop_eq_getElem_cons hlt]
   rfl
 unfold zc2
 rw [if_neg (by rw [decide_eq_true_eq,List.length_cons];omega),show zay (a::l) 0=some a from rfl,Option.bind_some]
 exact key l.length 1 a (by rw [List.length_cons];omega)
theorem zAK {s:zag} (hl:s.fAt.length≤2000000) (h1:1≤s.fAt.length) (hb: ∀y∈s.fAt,0≤y∧y≤3):zcW s=some (zvx s.fAt):=by
 unfold zcW
 generalize s.fAt=l at hl h1 hb
 cases l with
 |nil=>simp at h1
 |cons a l=>
  rw [List.length_cons]at hl
  rw [zER (by omega),zEZ (by omega),Option.bind_some,Option.bind_some]
  obtain⟨x1,x2⟩:=zzg l a
  obtain⟨n1,n2⟩:=zyE l a
  have b1:=hb _ x1
  have b2:=hb _ n1
  have w:IntKind.i64.wrap (zB3 a l-zBy a l)=zB3 a l-zBy a l:=zaC (by omega) (by omega)
  rw [w]
  congr 1
  unfold zvx
  rw [Bool.eq_iff_iff]
  simp only [decide_eq_true_eq,List.all_eq_true,Bool.not_eq_true',decide_eq_false_iff_not]
  constructor
  ·intro h x hx y hy
   have:=x2 x hx
   have:=n2 y hy
   omega
  ·intro h
   have:=h _ x1 _ n1
   omega
theorem zA3 {s:zag} {a:zaf} (hS:ziY s) (hg:zmG s) (hA:zj3 a.fAct) (hact:zE7 s a): ∃r,ziO s a=some r∧zeZ s a=some r:=by
 obtain⟨r,k1,k2,hn⟩:=zvh hS hg hA hact
 unfold ziO zeZ
 rw [k1,k2,Option.bind_some,Option.bind_some]
 by_cases h:r.2=true
 ·rw [if_pos h,if_pos h]
  have h3:=zbb.1 hn.good.2.2.2.2.1
  have hw:=hn.good.2.1
  have hb: ∀y∈r.1.fAt,0≤y∧y≤3:=fun y hy=>by
   have:=hn.good.2.2.2.2.2.1 y hy
   omega
  have hl:=hn.small.at_
  rw [zBt hl hb,zAK hl (by omega) hb,Option.bind_some,Option.bind_some]
  obtain⟨q,q1,q2⟩:=zyJ hn.small hn.good
  by_cases hc:zvx r.1.fAt=true
  ·rw [if_pos hc,if_pos hc,q1,q2]
   exact⟨q,rfl,rfl⟩
  ·rw [if_neg hc,if_neg hc]
   exact⟨_,rfl,rfl⟩
 ·rw [if_neg h,if_neg h]
  exact⟨_,rfl,rfl⟩
end Go.Proofs.YtgobcjbjogkpjaaGreatDoor
end
section
namespace Go.Proofs.YtgobcjbjogkpjaaGreatDoor
open Go.RowKit
set_option maxRecDepth 100000
theorem zl9.refl {s:zag} (hS:ziY s) (hg:zmG s):zl9 s s:=⟨hg,hS,rfl,rfl,rfl⟩
theorem zl9.trans {s r q:zag} (h:zl9 s r) (k:zl9 r q):zl9 s q:=⟨k.good,k.small,k.name.trans h.name,k.ways.trans h.ways,k.at_.trans h.at_⟩
theorem zqB {bs:List Bool} {b:Bool} (h:bs.length≤1000):((bs.length:Int)+(([b]:List Bool).length:Int))*1≤140737488355328∧(bs.length:Int)+(([b]:List Bool).length:Int)≤140737488355328:=by
 rw [List.length_singleton];omega
theorem zzU {s:zag} {acts:List zaf} {c:Bool} {bs:List Bool} {q:Nat} (hq:q<acts.length) (hl:acts.length≤1000) (hbs:bs.length≤1000) (hS:ziY s) (hg:zmG s) (hA: ∀a∈acts,zj3 a.fAct):
  ∃(s':zag) (b:Bool),zcq acts c bs q s.fName s.fWays s.fAt s.fStore=some (.inl (bs++ [b],((q+1:Nat):Int),s'.fName,s'.fWays,s'.fAt,s'.fStore))∧
   zbG acts c q s.fName s.fWays s.fAt s.fStore bs=some (.inl (((q+1:Nat):Int),s'.fName,s'.fWays,s'.fAt,s'.fStore,bs++ [b]))∧zl9 s s':=by
 have hAq:=hA _ (List.getElem_mem hq)
 obtain⟨g,e1,e2,f⟩:=zu3 (a:=acts[q]) hg hAq
 have hw:=zaN hq (by omega)
 have hd:decide ((q:Int)<(acts.length:Int))=true:=decide_eq_true (by omega)
 have eS:(⟨s.fName,s.fWays,s.fAt,s.fStore⟩:zag)=s:=rfl
 unfold zcq zbG
 rw [eS,if_pos hd,if_pos hd,zac hq,Option.bind_some,Option.bind_some,e1,e2,Option.bind_some,Option.bind_some]
 have stay: ∀b:Bool,∃(s':zag) (b':Bool),(some (.inl (bs++ [b],((q+1:Nat):Int),s.fName,s.fWays,s.fAt,s.fStore)):Option ((List Bool × Int × List UInt8 × List zab × List Int × List zaa) ⊕ Option (zag × List Bool)))=some (.inl (bs++ [b'],((q+1:Nat):Int),s'.fName,s'.fWays,s'.fAt,s'.fStore))∧
   (some (.inl (((q+1:Nat):Int),s.fName,s.fWays,s.fAt,s.fStore,bs++ [b])):Option ((Int × List UInt8 × List zab × List Int × List zaa × List Bool) ⊕ Option (zag × List Bool × Bool)))=some (.inl (((q+1:Nat):Int),s'.fName,s'.fWays,s'.fAt,s'.fStore,bs++ [b']))∧zl9 s s':=fun b=>⟨s,b,rfl,rfl,zl9.refl hS hg⟩
 cases hgv:g with
 |false=>
  have h0:=stay false
  cases c with
  |true=>
   by_cases h1:(acts[q]).fStep=0
   ·simp only [h1,beq_self_eq_true,bne_self_eq_false,if_true,Bool.false_and,Bool.false_eq_true,if_false,zad (zqB hbs),hw]
    exact h0
   ·simp only [beq_eq_false_iff_ne.2 h1,bne_iff_ne.2 h1,if_true,Bool.false_eq_true,if_false,zad (zqB hbs),hw]
    exact h0
  |false=>
   simp only [Bool.false_and,Bool.false_eq_true,if_false,zad (zqB hbs),hw]
   exact h0
 |true=>
  obtain⟨r,k1,k2,hn⟩:=zvh hS hg hAq (f hgv)
  have go: ∃(s':zag) (b':Bool),(some (.inl (bs++ [r.2],((q+1:Nat):Int),r.1.fName,r.1.fWays,r.1.fAt,r.1.fStore)):Option ((List Bool × Int × List UInt8 × List zab × List Int × List zaa) ⊕ Option (zag × List Bool)))=some (.inl (bs++ [b'],((q+1:Nat):Int),s'.fName,s'.fWays,s'.fAt,s'.fStore))∧
    (some (.inl (((q+1:Nat):Int),r.1.fName,r.1.fWays,r.1.fAt,r.1.fStore,bs++ [r.2])):Option ((Int × List UInt8 × List zab × List Int × List zaa × List Bool) ⊕ Option (zag × List Bool × Bool)))=some (.inl (((q+1:Nat):Int),s'.fName,s'.fWays,s'.fAt,s'.fStore,bs++ [b']))∧zl9 s s':=⟨r.1,r.2,rfl,rfl,hn⟩
  cases c with
  |true=>
   by_cases h1:(acts[q]).fStep=0
   ·simp only [h1,beq_self_eq_true,bne_self_eq_false,if_true,Bool.true_and,Bool.false_eq_true,if_false,k1,k2,Option.bind_some,zad (zqB hbs),hw]
    exact go
   ·obtain⟨m,m1,m2⟩:=zA3 hS hg hAq (f hgv)
    simp only [beq_eq_false_iff_ne.2 h1,bne_iff_ne.2 h1,if_true,Bool.false_eq_true,if_false,m1,m2,k1,k2,Option.bind_some,hw]
    cases hm:m with
    |true=>
     simp only [if_true,Bool.not_true,Bool.not_false,zad (zqB hbs)]
     exact go
    |false=>
     simp only [Bool.not_true,Bool.not_false,Bool.false_eq_true,if_false,zad (zqB hbs)]
     exact stay false
  |false=>
   simp only [Bool.true_and,if_true,Bool.false_eq_true,if_false,k1,k2,Option.bind_some,zad (zqB hbs),hw]
   exact go
theorem zu9 {acts:List zaf} {c:Bool} (hl:acts.length≤1000) (hA: ∀a∈acts,zj3 a.fAct): ∀(n q:Nat) (s:zag) (bs:List Bool),q+n=acts.length→bs.length=q→ziY s→zmG s→
  ∃r:zag × List Bool,zal (fun s:List Bool × Int × List UInt8 × List zab × List Int × List zaa=>zcq acts c s.1 s.2.1 s.2.2.1 s.2.2.2.1 s.2.2.2.2.1 s.2.2.2.2.2) (bs,(q:Int),s.fName,s.fWays,s.fAt,s.fStore)=some r∧
   zal (fun s:Int × List UInt8 × List zab × List Int × List zaa × List Bool=>zbG acts c s.1 s.2.1 s.2.2.1 s.2.2.2.1 s.2.2.2.2.1 s.2.2.2.2.2) ((q:Int),s.fName,s.fWays,s.fAt,s.fStore,bs)=some (r.1,r.2,true)∧zl9 s r.1∧r.2.length=acts.length
 |0,q,s,bs,hq,hb,hS,hg=>by
  have hd: ¬decide ((q:Int)<(acts.length:Int))=true:=by rw [decide_eq_true_eq];omega
  refine⟨(s,bs),zbR ?_,zbR ?_,zl9.refl hS hg,by show bs.length=_;omega⟩
  ·show zcq acts c bs q s.fName s.fWays s.fAt s.fStore=_
   unfold zcq
   rw [if_neg hd]
  ·show zbG acts c q s.fName s.fWays s.fAt s.fStore bs=_
   unfold zbG
   rw [if_neg hd]
 |n+1,q,s,bs,hq,hb,hS,hg=>by
  obtain⟨s',b,e1,e2,hn⟩:=zzU (c:=c) (bs:=bs) (q:=q) (by omega) hl (by omega) hS hg hA
  obtain⟨r,r1,r2,r3,r4⟩:=zu9 hl hA n (q+1) s' (bs++ [b]) (by omega) (by rw [List.length_append,List.length_singleton];omega) hn.small hn.good
  exact⟨r,(zcf (body:=fun s:List Bool × Int × List UInt8 × List zab × List Int × List zaa=>zcq acts c s.1 s.2.1 s.2.2.1 s.2.2.2.1 s.2.2.2.2.1 s.2.2.2.2.2) e1).trans r1,(zcf (body:=fun s:Int × List UInt8 × List zab × List Int × List zaa × List Bool=>zbG acts c s.1 s.2.1 s.2.2.1 s.2.2.2.1 s.2.2.2.2.1 s.2.2.2.2.2) e2).trans r2,hn.trans r3,r4⟩
theorem zr6 {s:zag} {acts:List zaf} {c:Bool} (hS:ziY s) (hA: ∀a∈acts,zj3 a.fAct): ∃r,zfL s acts c=some r∧zeK s acts c=some r∧(r.1=zDH∨zl9 s r.1)∧r.2.1.length≤20:=by
 obtain⟨g1,e1,f1⟩:=zCL hS
 obtain⟨g2,e2,f2⟩:=zDg hS
 have hg:g1=g2:=by rw [Bool.eq_iff_iff,f1,f2]
 subst hg
 unfold zfL zeK
 rw [e1,e2,Option.bind_some,Option.bind_some]
 by_cases h:((!g1)||(decide ((acts.length:Int)>20)))=true
 ·rw [if_pos h,if_pos h]
  exact⟨_,rfl,rfl, .inl rfl,by simp⟩
 ·rw [if_neg h,if_neg h]
  simp only [Bool.or_eq_true,Bool.not_eq_true',decide_eq_true_eq,not_or,Bool.not_eq_false]at h
  have hgs:=f1.1 h.1
  obtain⟨r,r1,r2,r3,r4⟩:=zu9 (c:=c) (by omega) hA acts.length 0 s [] (by omega) rfl hS hgs
  have p1:zjz s acts c=some r:=r1
  rw [zAg hS,zww hS,Option.bind_some,Option.bind_some,p1]
  exact⟨(r.1,r.2,true),rfl,r2, .inr r3,by show r.2.length≤20;omega⟩
end Go.Proofs.YtgobcjbjogkpjaaGreatDoor
end
section
namespace Go.Proofs.YtgobcjbjogkpjaaGreatDoor
open Go.RowKit
set_option maxRecDepth 100000
theorem zob (a0:zag) (a1:List zaf) (a2:Bool) (h0:zv9 a0) (h1:(okL zkc) a1) (h2:okB a2):zc0 a0 a1 a2=some true:=by
 unfold zc0
 obtain⟨b0,e0,g0,r0⟩:=zAV (x:=a0) (a:=1048576) (by omega) (by omega) h0
 rw [e0,Option.bind_some]
 by_cases q0:b0<0
 ·rw [if_pos (by simpa using q0)]
 rw [if_neg (by simpa using q0)]
 have s0:=r0 (by omega)
 obtain⟨b1,e1,g1,r1⟩:=zvy (xs:=a1) (a:=b0) (by omega) (by omega) h1
 rw [e1,Option.bind_some]
 by_cases q1:b1<0
 ·rw [if_pos (by simpa using q1)]
 rw [if_neg (by simpa using q1)]
 have s1:=r1 (by omega)
 have t0:za0 a0≤2000000:=by omega
 have t1:zaU a1≤2000000:=by omega
 have hA: ∀a∈a1,zj3 a.fAct:=fun a ha=>zz4 (by
  have h3:=zeu (tot:=zaB) ha
  unfold zaU at t1
  omega)
 obtain⟨w,vs,vi,hw,hl⟩:=zr6 (s:=a0) (acts:=a1) (c:=a2) (zyy t0) hA
 have tw:=zBG hw
 have tw2:za0 w.1≤2000000:=by omega
 have tb:zhS w.2.1≤2000000:=by unfold zhS;omega
 have c0:=zqJ a0
 have c1:=zqr a1
 have c2:=zqJ w.1
 have c3:=zwp w.2.1
 obtain⟨x0,x1,x2,m0,n0⟩:=zsg (x:=a0) (k:=1) (by omega) (by omega) t0
 obtain⟨y0, -,m1⟩:=zru (xs:=a1) (k:=1+(zdg a0:Nat)) (by omega) (by omega) t1
 obtain⟨z0,z1,z2,m2,n2⟩:=zsg (x:=w.1) (k:=1) (by omega) (by omega) tw2
 obtain⟨v0, -,m3,n3⟩:=zxA (xs:=w.2.1) (k:=1+(zdg w.1:Nat)) (by omega) (by omega) tb
 have p1:decide ((1:Int)+(zdg a0:Nat)+(zgB a1:Nat)<0)=false:=by simp;omega
 have p2:decide ((1:Int)+(zdg w.1:Nat)<0)=false:=by simp;omega
 have p3:decide ((1:Int)+(zdg w.1:Nat)+(zjQ w.2.1:Nat)<0)=false:=by simp;omega
 simp only [zBv t0,zvA t1,vs,vi,zwE t0,zus t1,zwE tw2,zAG tb,m0,m1,m2,m3,n2,n3,p1,p2,p3,bne_self_eq_false,Option.bind_some,Bool.not_true,Bool.or_false,Bool.false_eq_true,if_false,if_true]
end Go.Proofs.YtgobcjbjogkpjaaGreatDoor
end
section
namespace Go.Proofs.YtgobcjbjogkpjaaGreatDoor
open Go.RowKit
set_option maxRecDepth 100000
theorem zv7 {H:Type} {enc:TypeId × Value→H} {P:Program} {w:World} {base:Nat} {sp:Nat→Bool} {held:Bool} {fuel:Nat} {t:TypeId} {cs:List Value} {n:String} {d:DataW H} {p:List MemPlace} {u:TypeDesc}
  (ht:P.underlying t=some u) (hu:(match u with| .interface _=>true|_=>false)=true) (h:DataW.trod enc P w base sp held fuel t cs=some (.iface n d,p)): ∃a v,cs= [.iface a v]:=by
 cases fuel with
 |zero=>simp [DataW.trod]at h
 |succ fuel=>
  cases u<;>first|(cases hu;done)|skip
  simp only [DataW.trod,ht]at h
  split at h<;>first|(exact⟨_,_,rfl⟩)|(simp at h;done)|(simp_all;done)
noncomputable def zEa (s:String):Bool:=match(Tryz.prog.globalNamed s).bind (fun g=>(Tryz.prog.globals[g]?).map (·.type))with
 |some t=>(match Tryz.prog.underlying t with|some (.interface _)=>true|_=>false)
 |none=>false
noncomputable def zCy (s:String):Bool:=match(Tryz.prog.globalNamed s).bind (fun g=>(Tryz.prog.globals[g]?).map (·.type))with
 |some t=>(match Tryz.prog.underlying t with
  |some (.array n e)=>(match Tryz.prog.underlying e with|some (.int .u64)=>true|_=>false)&&Tryz.prog.cellsOf e==1&&Tryz.prog.cellsOf t==n
  |_=>false)
 |none=>false
theorem zxk {s:String} {D:DataW Unit} {W:World} (h:laidMet Tryz.prog [(s,D)] W) (hc:zEa s=true) (hd: ∃n d,D= .iface n d): ∃t p,W.var? Tryz.prog s=some #[.iface t p]:=by
 obtain⟨ps,⟨g,t,cs,fuel,p,q,hg,ht,hvar,htr,_,_⟩,_⟩:=h
 obtain⟨n,d,rfl⟩:=hd
 unfold zEa at hc
 rw [hg,Option.bind_some,ht]at hc
 simp only at hc
 cases hu:Tryz.prog.underlying t with
 |none=>rw [hu]at hc;cases hc
 |some u=>
  obtain⟨a,v,e⟩:=zv7 hu (by rw [hu]at hc;cases u<;>first|rfl|cases hc) htr
  refine⟨a,v, ?_⟩
  rw [hvar]
  congr 1
  apply Array.ext'
  rw [e]
theorem zEf {s:String} {W:World} (h:laidMet Tryz.prog [(s,Lib.tabData .u64 Lib.pow10Tab)] W) (hc:zCy s=true):Lib.TabIs Tryz.prog W s .u64 Lib.pow10Tab:=by
 have h0:=h
 obtain⟨ps,⟨g,t,cs,fuel,p,q,hg,ht,hvar,htr,_,_⟩,_⟩:=h
 unfold zCy at hc
 rw [hg,Option.bind_some,ht]at hc
 simp only at hc
 split at hc
 ·rename_i n e hu
  simp only [Bool.and_eq_true,beq_iff_eq]at hc
  obtain⟨⟨h1,h2⟩,h3⟩:=hc
  split at h1
  ·rename_i he
   exact Lib.tabIs_of_head hg ht hu he h2 h3 h0
  ·cases h1
 ·cases hc
theorem zCW {laid:List (String × DataW Unit)} {D1 D2 D3:DataW Unit} {W:World} (h:laidMet Tryz.prog laid W)
  (e1:(laid.filter fun x=>x.1== "strconv.ErrSyntax")= [("strconv.ErrSyntax",D1)]) (i1: ∃n d,D1= .iface n d)
  (e2:(laid.filter fun x=>x.1== "strconv.ErrRange")= [("strconv.ErrRange",D2)]) (i2: ∃n d,D2= .iface n d)
  (e3:(laid.filter fun x=>x.1== "internal/strconv.uint64pow10")= [("internal/strconv.uint64pow10",D3)]) (i3:D3=Lib.tabData .u64 Lib.pow10Tab):pkW.n≤W.heap.size∧pkW.K W:=by
 have h1:=h.filter fun x=>x.1== "strconv.ErrSyntax"
 have h2:=h.filter fun x=>x.1== "strconv.ErrRange"
 have h3:=h.filter fun x=>x.1== "internal/strconv.uint64pow10"
 rw [e1]at h1
 rw [e2]at h2
 rw [e3,i3]at h3
 have k:pkK W:=⟨zxk h1 (by kernel_rfl) i1,zxk h2 (by kernel_rfl) i2,(zEf h3 (by kernel_rfl)).trans (by kernel_rfl)⟩
 exact⟨zDZ k,k⟩
end Go.Proofs.YtgobcjbjogkpjaaGreatDoor
end

/- Parts of a proof, joined: N21, N22, PK, NK, NP, NQ, NS, NT, NV, NU, NW, LK, NWK, NH, NVG, NWL. -/
import Derived.Test.YtgobcjbjogkpjaaGreatDoorW9
set_option linter.unusedVariables false
set_option linter.unusedSimpArgs false
section
namespace Go.Proofs.YtgobcjbjogkpjaaGreatDoor
open Go.RowKit
set_option maxRecDepth 100000
theorem zvt {α:Type} {xs:List α} {i:Int} {x:α} (h:zaD xs i=some x):0≤i∧xs[i.toNat]?=some x∧i<xs.length:=by
 unfold zaD at h
 split at h
 ·rename_i h0
  have:=(List.getElem?_eq_some_iff.1 h).1
  exact⟨h0,h,by omega⟩
 ·cases h
def zoI (t:zab) (k c:Int):zab:=⟨t.ab,t.ao,t.af.set k.toNat {((t.af[k.toNat]?).getD ⟨[],0,0⟩)with al:=c}⟩
def zjg (a b:Int):Int:=if a<b then a+1 else a-1
def zvC:Nat→Int→Int→List Int
 |0,_,_=> []
 |f+1,a,b=>if a=b then []else zjg a b::zvC f (zjg a b) b
def way (t:zab) (k a b:Int):List zab:=t::(zvC 3 a b).map (zoI t k)
theorem zzV: ∀(f:Nat) {a b:Int},0≤a→a≤3→0≤b→b≤3→ ∀c∈zvC f a b,0≤c∧c≤3
 |0,_,_,_,_,_,_,c,hc=>by simp [zvC]at hc
 |f+1,a,b,h1,h2,h3,h4,c,hc=>by
  unfold zvC at hc
  split at hc
  ·simp at hc
  ·have hn:0≤zjg a b∧zjg a b≤3:=by unfold zjg;split<;>omega
   rcases yqmc.1 hc with rfl|hc
   ·exact hn
   ·exact zzV f hn.1 hn.2 h3 h4 c hc
theorem zvq {t:zab} {k b:Int} {body:Int × List zab→Option ((Int × List zab) ⊕ Option (List zab))} (hb0:0≤b) (hb3:b≤3)
  (hs: ∀a o,0≤a→a≤3→a≠b→o.length≤100→body (a,o)=some (.inl (zjg a b,o++ [zoI t k (zjg a b)]))) (he: ∀o,body (b,o)=some (.inr (some o))):
  ∀(f:Nat) (a:Int) (o:List zab),0≤a→a≤3→(a-b).natAbs≤f→o.length+f≤100→zak body (a,o)=some (o++(zvC f a b).map (zoI t k))
 |0,a,o,_,_,hf,_=>by
  have:a=b:=by omega
  subst this
  rw [zbL,he];simp [zvC]
 |f+1,a,o,h0,h3,hf,ho=>by
  by_cases hab:a=b
  ·subst hab
   rw [zbL,he];simp [zvC]
  ·rw [zbL,hs a o h0 h3 hab (by omega)]
   have hn:0≤zjg a b∧zjg a b≤3∧(zjg a b-b).natAbs≤f:=by unfold zjg;split<;>omega
   have:=zvq hb0 hb3 hs he f (zjg a b) (o++ [zoI t k (zjg a b)]) hn.1 hn.2.1 hn.2.2 (by simp;omega)
   simp only [this,zvC,if_neg hab,List.map_cons,List.append_assoc,List.singleton_append]
theorem zDy {t:zab} (h:zdT t):zgn t=some t:=by
 unfold zgn
 have h1:=h.ic
 have h2:=h.idxs
 rw [zae (by simp;omega),zae (by simp;omega)]
theorem zyP {t:zab} (h:zdT t):zd9 t=some t:=by
 unfold zd9 zbe zb3
 have h1:=h.ic
 have h2:=h.idxs
 rw [zkW (by omega) (by omega),yqob,zkW (by omega) (by omega),yqob]
theorem zFw {t:zab} {n:Str} {x:zbh} {c:Int} (h:zdT t) (hx:zf2 t n x):zhG t n c=some (zoI t (zjy (fun y:zbh=>y.ab==n) t.af) c):=by
 unfold zhG zoI
 rw [zDy h,yqob,zo6 h,yqob,hx.at_,yqob,(zvt hx.at_).2.1]
 rfl
theorem zF3 {t:zab} {n:Str} {x:zbh} {c:Int} (h:zdT t) (hx:zf2 t n x):zcc t n c=some (zoI t (zjy (fun y:zbh=>y.ab==n) t.af) c):=by
 unfold zcc zoI
 rw [zyP h,yqob,zxa h,yqob,hx.at_,yqob,(zvt hx.at_).2.1]
 rfl
theorem zIy {t:zab} {n:Str} {x:zbh} {b:Int} (h:zdT t) (hx:zf2 t n x) (h0:0≤x.al) (h3:x.al≤3) (hb0:0≤b) (hb3:b≤3):zj5 t n b=some (way t (zjy (fun y:zbh=>y.ab==n) t.af) x.al b):=by
 unfold zj5
 rw [zDy h,yqob,zo6 h,yqob,hx.at_,yqob]
 refine(zvq (t:=t) (k:=zjy (fun y:zbh=>y.ab==n) t.af) hb0 hb3 ?_ ?_ 3 x.al [t] h0 h3 (by omega) (by simp)).trans (by simp [way])
 ·intro a o ha0 ha3 hab ho
  show zfq t n b a o=_
  unfold zfq
  rw [if_pos (by simpa using hab)]
  have w1:IntKind.i64.wrap (a+1)=a+1:=zaI (by omega) (by omega)
  have w2:IntKind.i64.wrap (a-1)=a-1:=zaI (by omega) (by omega)
  by_cases hlt:a<b
  ·rw [if_pos (by simpa using hlt),w1,zFw h hx,yqob,zae (by simp;omega)]
   simp [zjg,hlt]
  ·rw [if_neg (by simpa using hlt),w2,zFw h hx,yqob,zae (by simp;omega)]
   simp [zjg,hlt]
 ·intro o
  show zfq t n b b o=_
  unfold zfq
  rw [if_neg (by simp)]
theorem zHE {t:zab} {n:Str} {x:zbh} {b:Int} (h:zdT t) (hx:zf2 t n x) (h0:0≤x.al) (h3:x.al≤3) (hb0:0≤b) (hb3:b≤3):zeC t n b=some (way t (zjy (fun y:zbh=>y.ab==n) t.af) x.al b):=by
 unfold zeC zbM
 rw [zxa h,yqob,hx.at_,yqob,yqob,zyP h,yqob]
 refine(zvq (t:=t) (k:=zjy (fun y:zbh=>y.ab==n) t.af) hb0 hb3 ?_ ?_ 3 x.al [t] h0 h3 (by omega) (by simp)).trans (by simp [way])
 ·intro a o ha0 ha3 hab ho
  show zcj t n b a o=_
  unfold zcj
  rw [if_pos (by simpa using hab)]
  have w1:IntKind.i64.wrap (a+1)=a+1:=zaI (by omega) (by omega)
  have w2:IntKind.i64.wrap (a-1)=a-1:=zaI (by omega) (by omega)
  by_cases hlt:a<b
  ·rw [if_pos (by simpa using hlt),w1,zF3 h hx,yqob,zae (by simp;omega)]
   simp [zjg,hlt]
  ·rw [if_neg (by simpa using hlt),w2,zF3 h hx,yqob,zae (by simp;omega)]
   simp [zjg,hlt]
 ·intro o
  show zcj t n b b o=_
  unfold zcj
  rw [if_neg (by simp)]
theorem zlx {α β:Type} {xs ys:List α} (hl:xs.length=ys.length) {body:Int→Option (Int ⊕ Option β)} (p:α→α→Bool) (b:β) (fin:Option β)
  (hs: ∀(i:Nat) (hi:i<xs.length) (hj:i<ys.length),body i=some (if p xs[i] ys[i]=true then .inl ((i+1:Nat):Int)else .inr (some b))) (he:body xs.length=some (.inr fin)):zak body 0=if((xs.zip ys).all fun z=>p z.1 z.2)=true then fin else some b:=by
 have hz:(xs.zip ys).length=xs.length:=by simp [hl]
 have h1:=zo4 (xs:=xs.zip ys) (body:=body) (fun i (_:Unit)=>i) (fun z _=>some (if p z.1 z.2=true then .inl ()else .inr (some b))) (fun _=>fin)
  (fun i hi s=>by
   have hi1:i<xs.length:=by omega
   have hi2:i<ys.length:=by omega
   rw [hs i hi1 hi2,List.getElem_zip]
   cases p xs[i] ys[i]<;>simp [zws]) (fun s=>by rw [hz];exact he) ()
 rw [zyn (fun z:α × α=>p z.1 z.2) b fun x _ s=>rfl]at h1
 exact h1
theorem zor {α γ:Type} {p:α→α→Bool} {f:α→γ} (h: ∀x y,p x y=true↔f x=f y): ∀{xs ys:List α},xs.length=ys.length→(((xs.zip ys).all fun z=>p z.1 z.2)=true↔xs.map f=ys.map f)
 | [], [],_=>by simp
 | [],_::_,h=>by simp at h
 |_::_, [],h=>by simp at h
 |x::xs,y::ys,hl=>by
  have:=zor h (xs:=xs) (ys:=ys) (by simpa using hl)
  simp only [List.zip_cons_cons,List.all_cons,yqba,List.map_cons,List.cons.injEq,this,h]
def nc (x:zbh):Str × Int:=(x.ab,x.bj)
theorem zDQ {x y:zbh} (h1:nc x=nc y) (h2:x.al=y.al):x=y:=by
 cases x;cases y
 simp [nc]at h1 h2
 simp [h1,h2]
theorem zwf: ∀{xs ys:List zbh},xs.map nc=ys.map nc→xs.map (·.al)=ys.map (·.al)→xs=ys
 | [], [],_,_=>rfl
 | [],_::_,h,_=>by simp at h
 |_::_, [],h,_=>by simp at h
 |x::xs,y::ys,h1,h2=>by
  simp only [List.map_cons,List.cons.injEq]at h1 h2
  rw [zDQ h1.1 h2.1,zwf h1.2 h2.2]
theorem zrX {a b:zab} (h1:a.ab=b.ab) (h2:a.ao=b.ao) (h3:a.af=b.af):a=b:=by
 cases a;cases b;simp at h1 h2 h3;simp [h1,h2,h3]
theorem zAq {a b:zab} (ha:zdT a): ∃r,zfN a b=some r∧(r=true↔a.ab=b.ab∧a.ao=b.ao∧a.af.map nc=b.af.map nc):=by
 unfold zfN
 by_cases h0:(((a.ab !=b.ab)||((a.ao.length:Int) !=(b.ao.length:Int)))||((a.af.length:Int) !=(b.af.length:Int)))=true
 ·rw [if_pos h0]
  refine⟨_,rfl,by simp, ?_⟩
  rintro⟨h1,h2,h3⟩
  have h4:=congrArg List.length h3
  simp only [List.length_map]at h4
  rw [h1,h2,h4]at h0
  simp at h0
 ·rw [if_neg h0]
  simp only [Bool.or_eq_true,bne_iff_ne,ne_eq,not_or,Decidable.not_not,Int.natCast_inj]at h0
  obtain⟨⟨h1,h2⟩,h3⟩:=h0
  have hc:=ha.ic
  have hi:=ha.idxs
  rw [zlx (xs:=a.ao) (ys:=b.ao) h2 (fun x y=>x==y) false (zeh a b) ?_ ?_]
  ·have hk:zeh a b=some ((a.af.zip b.af).all fun z=>nc z.1==nc z.2):=by
    unfold zeh
    rw [zlx (xs:=a.af) (ys:=b.af) h3 (fun x y=>nc x==nc y) false (some true) ?_ ?_]
    ·cases((a.af.zip b.af).all fun z=>nc z.1==nc z.2)<;>rfl
    ·intro i hi1 hj1
     show zcU a b i=_
     unfold zcU
     rw [if_pos (by simpa using hi1),zac hi1,yqob,zac hj1,yqob,zaW hi1 (by omega)]
     by_cases hq:nc a.af[i]=nc b.af[i]
     ·have hq2:=hq
      simp only [nc,Prod.mk.injEq]at hq2
      rw [if_neg (by simp [hq2.1,hq2.2]),if_pos (by simpa using hq)]
     ·have hq2:=hq
      simp only [nc,Prod.mk.injEq,not_and]at hq2
      rw [if_pos (by simp only [Bool.or_eq_true,bne_iff_ne,ne_eq];by_cases hz:a.af[i].ab=b.af[i].ab;exact .inr (hq2 hz);exact .inl hz),if_neg (by simpa using hq)]
    ·show zcU a b a.af.length=_
     unfold zcU
     rw [if_neg (by simp)]
   have z1:=zor (p:=fun x y:Str=>x==y) (f:=id) (by simp) h2
   have z2:=zor (p:=fun x y:zbh=>nc x==nc y) (f:=nc) (by simp) h3
   rw [List.map_id,List.map_id]at z1
   rw [hk]
   by_cases hz:((a.ao.zip b.ao).all fun z=>z.1==z.2)=true
   ·rw [if_pos hz]
    exact⟨_,rfl,by rw [z2];exact⟨fun h=>⟨h1,z1.1 hz,h⟩,fun h=>h.2.2⟩⟩
   ·rw [if_neg hz]
    exact⟨_,rfl,by simp,fun h=>absurd (z1.2 h.2.1) hz⟩
  ·intro i hi1 hj1
   show zc1 a b i=_
   unfold zc1
   rw [if_pos (by simpa using hi1),zac hi1,yqob,zac hj1,yqob,zaW hi1 (by omega)]
   by_cases hq:a.ao[i]=b.ao[i]
   ·rw [if_neg (by simp [hq]),if_pos (by simpa using hq)]
   ·rw [if_pos (by simpa using hq),if_neg (by simpa using hq)]
  ·show zc1 a b a.ao.length=_
   unfold zc1
   rw [if_neg (by simp)]
structure zFM (t:zab):Prop where
 len:t.af.length≤3
 nr: ∀x∈t.af,0≤x.al∧x.al≤3
theorem zzX: ∀(l:List (zbh × zbh)) (s:Int),0≤s→(l.foldl (fun s z=>s+((z.1.al-z.2.al).natAbs:Int)) s=0↔s=0∧ ∀z∈l,z.1.al=z.2.al)
 | [],s,_=>by simp
 |z::l,s,h=>by
  rw [List.foldl_cons,zzX l _ (by omega)]
  constructor
  ·rintro⟨h1,h2⟩
   exact⟨by omega,fun y hy=>by
    rcases yqmc.1 hy with rfl|hy
    ·omega
    ·exact h2 y hy⟩
  ·rintro⟨h1,h2⟩
   have:=h2 z (by simp)
   exact⟨by omega,fun y hy=>h2 y (by simp [hy])⟩
theorem zxt: ∀{xs ys:List zbh},xs.length=ys.length→((∀z∈xs.zip ys,z.1.al=z.2.al)↔xs.map (·.al)=ys.map (·.al))
 | [], [],_=>by simp
 | [],_::_,h=>by simp at h
 |_::_, [],h=>by simp at h
 |x::xs,y::ys,hl=>by
  have:=zxt (xs:=xs) (ys:=ys) (by simpa using hl)
  simp only [List.zip_cons_cons,List.forall_mem_cons,this,List.map_cons,List.cons.injEq]
theorem zH3 (d:Int) (h1: -3≤d) (h2:d≤3):zjT d (IntKind.i64.wrap (0-d))=some (d.natAbs:Int):=by
 rw [zaI (by omega) (by omega)]
 unfold zjT
 by_cases h:d>0-d
 ·rw [if_pos (by simpa using h)];congr 1;omega
 ·rw [if_neg (by simpa using h)];congr 1;omega
theorem zJb {a b:zab} (ha:zFM a) (hb:zFM b) (hl:a.af.length=b.af.length): ∃v,zjM a b=some v∧(v=0↔a.af.map (·.al)=b.af.map (·.al)):=by
 unfold zjM
 have h3:=ha.len
 have hz:(a.af.zip b.af).length=a.af.length:=by simp [hl]
 have h1:=zb7 (xs:=a.af.zip b.af) (body:=fun s:Int × Int=>zeb a b s.1 s.2) (fun i (s:Int)=>(s,i)) (fun(s:Int) z=>s+((z.1.al-z.2.al).natAbs:Int)) (fun s=>some s) (fun i s=>0≤s∧s≤3*(i:Int))
  (fun i hi s hs=>by
   have hi1:i<a.af.length:=by omega
   have hi2:i<b.af.length:=by omega
   have ga:=ha.nr a.af[i] (List.getElem_mem hi1)
   have gb:=hb.nr b.af[i] (List.getElem_mem hi2)
   rw [List.getElem_zip]
   refine⟨?_, ?_, ?_⟩
   ·show zeb a b s i=_
    unfold zeb
    rw [if_pos (by simpa using hi1),zac hi1,yqob,zac hi2,yqob,zaI (n:=a.af[i].al-b.af[i].al) (by omega) (by omega),zH3 _ (by omega) (by omega),yqob,zaW hi1 (by omega),zaI (by omega) (by omega)]
   ·dsimp only;omega
   ·dsimp only;push_cast;omega)
  (fun s hs=>by
   show zeb a b s ((a.af.zip b.af).length:Int)=_
   unfold zeb
   rw [hz,if_neg (by simp)]) (s:=0) ⟨by omega,by omega⟩
 refine⟨_,h1.1, ?_⟩
 rw [zzX _ _ (by omega),←zxt hl]
 simp
def eqT (a b:zab):Bool:=a.ab==b.ab&&(a.ao==b.ao&&(a.af.map nc==b.af.map nc&&a.af.map (·.al)==b.af.map (·.al)))
theorem zqb {a b:zab}:eqT a b=true↔a=b:=by
 unfold eqT
 simp only [yqba,beq_iff_eq]
 constructor
 ·rintro⟨h1,h2,h3,h4⟩;exact zrX h1 h2 (zwf h3 h4)
 ·rintro rfl;simp
theorem zFa {a b:zab} (ha:zdT a):zcv a b=some (eqT a b):=by
 have key: ∃r,zcv a b=some r∧(r=true↔a=b):=by
  unfold zcv
  by_cases h1:(a.ab==b.ab)=true
  ·rw [if_pos h1]
   have h1':a.ab=b.ab:=by simpa using h1
   have e1: ∃r,zbC a.ao b.ao=some r∧(r=true↔a.ao=b.ao):=by
    unfold zbC
    by_cases h2:((a.ao.length:Int) !=(b.ao.length:Int))=true
    ·rw [if_pos h2]
     exact⟨_,rfl,by simp,fun h=>by rw [h]at h2;simp at h2⟩
    ·rw [if_neg h2]
     have h2':a.ao.length=b.ao.length:=by
      have:(a.ao.length:Int)=b.ao.length:=by simpa using h2
      omega
     rw [zlx (xs:=a.ao) (ys:=b.ao) h2' (fun x y=>x==y) false (some true) ?_ ?_]
     ·have z1:=zor (p:=fun x y:Str=>x==y) (f:=id) (by simp) h2'
      rw [List.map_id,List.map_id]at z1
      rw [←z1]
      cases hz:((a.ao.zip b.ao).all fun z=>z.1==z.2)<;>exact⟨_,rfl,by simp⟩
     ·intro i hi1 hj1
      show zaQ a.ao b.ao i=_
      unfold zaQ
      have:=ha.ic
      rw [if_pos (by simpa using hi1),zac hi1,yqob,zac hj1,yqob,zaW hi1 (by omega)]
      by_cases hq:a.ao[i]=b.ao[i]
      ·rw [if_neg (by simp [hq]),if_pos (by simpa using hq)]
      ·rw [if_pos (by simpa using hq),if_neg (by simpa using hq)]
     ·show zaQ a.ao b.ao a.ao.length=_
      unfold zaQ
      rw [if_neg (by simp)]
   obtain⟨r1,e1,f1⟩:=e1
   rw [e1,yqob]
   by_cases h2:r1=true
   ·rw [if_pos h2]
    have h2':=f1.1 h2
    have e2: ∃r,zbi a.af b.af=some r∧(r=true↔a.af=b.af):=by
     unfold zbi
     by_cases h3:((a.af.length:Int) !=(b.af.length:Int))=true
     ·rw [if_pos h3]
      exact⟨_,rfl,by simp,fun h=>by rw [h]at h3;simp at h3⟩
     ·rw [if_neg h3]
      have h3':a.af.length=b.af.length:=by
       have:(a.af.length:Int)=b.af.length:=by simpa using h3
       omega
      rw [zlx (xs:=a.af) (ys:=b.af) h3' (fun x y=>x.ab==y.ab&&(x.bj==y.bj&&(x.al==y.al))) false (some true) ?_ ?_]
      ·have z1:=zor (p:=fun x y:zbh=>x.ab==y.ab&&(x.bj==y.bj&&(x.al==y.al))) (f:=id) (fun x y=>by
        simp only [yqba,beq_iff_eq,id]
        constructor
        ·rintro⟨k1,k2,k3⟩;exact zDQ (by simp [nc,k1,k2]) k3
        ·rintro rfl;simp) h3'
       rw [List.map_id,List.map_id]at z1
       rw [←z1]
       cases((a.af.zip b.af).all fun z=>z.1.ab==z.2.ab&&(z.1.bj==z.2.bj&&(z.1.al==z.2.al)))<;>exact⟨_,rfl,by simp⟩
      ·intro i hi1 hj1
       show zaH a.af b.af i=_
       unfold zaH
       have:=ha.idxs
       rw [if_pos (by simpa using hi1),zac hi1,yqob,zac hj1,yqob,zaW hi1 (by omega)]
       cases(a.af[i].ab==b.af[i].ab&&(a.af[i].bj==b.af[i].bj&&(a.af[i].al==b.af[i].al)))<;>rfl
      ·show zaH a.af b.af a.af.length=_
       unfold zaH
       rw [if_neg (by simp)]
    obtain⟨r2,e2,f2⟩:=e2
    rw [e2,yqob]
    exact⟨_,rfl,by rw [f2];exact⟨fun h=>zrX h1' h2' h,fun h=>by rw [h]⟩⟩
   ·rw [if_neg h2]
    exact⟨_,rfl,by simp,fun h=>absurd (f1.2 (by rw [h])) h2⟩
  ·rw [if_neg h1]
   exact⟨_,rfl,by simp,fun h=>by rw [h]at h1;simp at h1⟩
 obtain⟨r,e,f⟩:=key
 rw [e];congr 1
 rw [Bool.eq_iff_iff,f,zqb]
structure zjF (s:zai):Prop where
 name:s.ab.length≤2000000
 ways:s.ak.length≤2000000
 way: ∀t∈s.ak,zdT t
 at_:s.bm.length≤2000000
 store:zr6 s.ay
theorem zB9 {t:zab} (h:zah t=true):zFM t:=by
 unfold zah at h
 simp only [yqba,decide_eq_true_eq]at h
 refine⟨by omega,fun x hx=> ?_⟩
 obtain⟨i,hi,rfl⟩:=List.mem_iff_getElem.1 hx
 have h1:=yqal.1 h.2 i (List.mem_range.2 hi)
 unfold zpI at h1
 simp only [yqba,List.getElem?_eq_getElem hi,Option.getD_some]at h1
 exact zaY.1 h1.1.2
theorem zzq {α γ:Type} (f:α→γ): ∀(l:List α) (k:Nat) (d y:α),f y=f ((l[k]?).getD d)→(l.set k y).map f=l.map f
 | [],k,d,y,_=>rfl
 |x::l,0,d,y,h=>by
  simp only [List.getElem?_cons_zero,Option.getD_some]at h
  simp [h]
 |x::l,k+1,d,y,h=>by
  simp only [List.getElem?_cons_succ]at h
  simp [zzq f l k d y h]
theorem zsm (t:zab) (k c:Int):(zoI t k c).af.map (·.ab)=t.af.map (·.ab):=zzq _ _ _ ⟨[],0,0⟩ _ rfl
theorem zCT {t:zab} {k c:Int} (h:zFM t) (h0:0≤c) (h3:c≤3):zFM (zoI t k c):=by
 refine⟨by unfold zoI;simpa using h.len,fun x hx=> ?_⟩
 rcases List.mem_or_eq_of_mem_set hx with hx|rfl
 ·exact h.nr x hx
 ·exact⟨h0,h3⟩
theorem zyR {t:zab} {k c:Int} (h:zdT t):zdT (zoI t k c):=by
 refine⟨h.name,h.ic,h.mf,by unfold zoI;simpa using h.idxs,fun x hx=> ?_⟩
 have h1:x.ab∈(zoI t k c).af.map (·.ab):=List.mem_map.2 ⟨x,hx,rfl⟩
 rw [zsm]at h1
 obtain⟨y,hy,e⟩:=List.mem_map.1 h1
 rw [←e];exact h.idx y hy
theorem zGV {t:zab} {k a b:Int} (hS:zdT t) (h:zFM t) (ha0:0≤a) (ha3:a≤3) (hb0:0≤b) (hb3:b≤3): ∀w∈way t k a b,w.af.map (·.ab)=t.af.map (·.ab)∧zFM w∧zdT w:=by
 intro w hw
 rcases yqmc.1 hw with rfl|hw
 ·exact⟨rfl,h,hS⟩
 ·obtain⟨c,hc,rfl⟩:=List.mem_map.1 hw
  have:=zzV 3 ha0 ha3 hb0 hb3 c hc
  exact⟨zsm t k c,zCT h this.1 this.2,zyR hS⟩
theorem zDe {xs ys:List zbh} {n:Str} (h:xs.map (·.ab)=ys.map (·.ab)):decide (zjy (fun x:zbh=>x.ab==n) xs≥0)=decide (zjy (fun x:zbh=>x.ab==n) ys≥0):=by
 rw [zni,zni]
 have e: ∀l:List zbh,(l.any fun x=>x.ab==n)=(l.map (·.ab)).any (· ==n):=fun l=>by rw [List.any_map];rfl
 rw [e,e,h]
def noT:zab:=⟨[], [], []⟩
def zcX (s:zai):zab:=(s.ak[0]?).getD noT
def zoQ (s:zai):zab:=(s.ak[s.ak.length-1]?).getD noT
def kOf (t:zab) (n:Str):Int:=zjy (fun y:zbh=>y.ab==n) t.af
def zj0 (t:zab) (n:Str):Int:=((t.af[(kOf t n).toNat]?).getD ⟨[],0,0⟩).al
def zjY (s:zai):List zab:=way (zcX s) (kOf (zcX s) s.ab) (zj0 (zcX s) s.ab) (zj0 (zoQ s) s.ab)
theorem zEG {t:zab} {n:Str} {x:zbh} (h:zf2 t n x):zj0 t n=x.al:=by
 unfold zj0 kOf
 rw [(zvt h.at_).2.1];rfl
theorem zm9 {s:zai} (h:1≤s.ak.length):zaD s.ak 0=some (zcX s)∧zcX s∈s.ak:=by
 have h0:0<s.ak.length:=by omega
 have e:zcX s=s.ak[0]:=by unfold zcX;rw [List.getElem?_eq_getElem h0];rfl
 rw [e]
 exact⟨zac h0,List.getElem_mem h0⟩
theorem zze {s:zai} (h:1≤s.ak.length) (h4:s.ak.length≤4):zaD s.ak (IntKind.i64.wrap ((s.ak.length:Int)-1))=some (zoQ s)∧zoQ s∈s.ak:=by
 have h0:s.ak.length-1<s.ak.length:=by omega
 have e:zoQ s=s.ak[s.ak.length-1]:=by unfold zoQ;rw [List.getElem?_eq_getElem h0];rfl
 have w:IntKind.i64.wrap ((s.ak.length:Int)-1)=((s.ak.length-1:Nat):Int):=by rw [zaI (by omega) (by omega)];omega
 rw [e,w]
 exact⟨zac h0,List.getElem_mem h0⟩
theorem zlR {t:zab} {n:Str} (h:zoc t n=true): ∃x,zf2 t n x∧zj0 t n=x.al∧0≤x.al∧x.al≤3∧zah t=true:=by
 obtain⟨x,hx,_⟩:=zCy h
 have hg:zah t=true:=by
  unfold zoc at h
  simp only [yqba]at h
  exact h.1
 have:=(zB9 hg).nr x (zz1 hx.at_)
 exact⟨x,hx,zEG hx,this.1,this.2,hg⟩
theorem zHe {s:zai} (hS:zjF s) (h1:1≤s.ak.length) (h4:s.ak.length≤4): ∃sw,zfz s=some sw∧(sw=true↔(∀t∈s.ak,zoc t s.ab=true)∧s.ak=zjY s):=by
 unfold zfz
 obtain⟨e0,m0⟩:=zm9 h1
 obtain⟨e1,m1⟩:=zze h1 h4
 have S0:=hS.way _ m0
 have S1:=hS.way _ m1
 rw [zmM,yqob,if_pos (zaY.2 ⟨by omega,by omega⟩),e0,yqob,zo3 S0,yqob]
 have no: ∀{t:zab},t∈s.ak→zoc t s.ab≠true→(false=true↔(∀t∈s.ak,zoc t s.ab=true)∧s.ak=zjY s):=fun ht hn=>⟨by simp,fun h=>absurd (h.1 _ ht) hn⟩
 by_cases g0:zah (zcX s)=true
 ·rw [if_pos g0,zo6 S0,yqob]
  by_cases k0:zjy (fun x:zbh=>x.ab==s.ab) (zcX s).af<0
  ·rw [if_pos (by simpa using k0)]
   exact⟨_,rfl,no m0 (by unfold zoc;intro hq;rw [yqba,decide_eq_true_eq]at hq;omega)⟩
  ·rw [if_neg (by simpa using k0),e1,yqob,zo3 S1,yqob]
   by_cases g1:zah (zoQ s)=true
   ·rw [if_pos g1,zo6 S1,yqob]
    by_cases k1:zjy (fun x:zbh=>x.ab==s.ab) (zoQ s).af<0
    ·rw [if_pos (by simpa using k1)]
     exact⟨_,rfl,no m1 (by unfold zoc;intro hq;rw [yqba,decide_eq_true_eq]at hq;omega)⟩
    ·rw [if_neg (by simpa using k1),yqob]
     have H0:zoc (zcX s) s.ab=true:=by unfold zoc;simp only [yqba,decide_eq_true_eq];exact⟨g0,by omega⟩
     have H1:zoc (zoQ s) s.ab=true:=by unfold zoc;simp only [yqba,decide_eq_true_eq];exact⟨g1,by omega⟩
     obtain⟨x,hx,sx,x0,x3,_⟩:=zlR H0
     obtain⟨y,hy,sy,y0,y3,_⟩:=zlR H1
     rw [hy.at_,yqob,zIy S0 hx x0 x3 y0 y3,yqob]
     have hW:way (zcX s) (zjy (fun y:zbh=>y.ab==s.ab) (zcX s).af) x.al y.al=zjY s:=by unfold zjY kOf;rw [sx,sy]
     rw [hW]
     have hM:=zGV (t:=zcX s) (k:=kOf (zcX s) s.ab) (a:=zj0 (zcX s) s.ab) (b:=zj0 (zoQ s) s.ab) S0 (zB9 g0) (by omega) (by omega) (by omega) (by omega)
     have hM: ∀w∈zjY s,w.af.map (·.ab)=(zcX s).af.map (·.ab)∧zFM w∧zdT w:=hM
     by_cases hl:((zjY s).length:Int) !=(s.ak.length:Int)
     ·rw [if_pos hl]
      exact⟨_,rfl,by simp,fun h=>by rw [←h.2]at hl;simp at hl⟩
     ·rw [if_neg hl]
      have hl':(zjY s).length=s.ak.length:=by
       have:((zjY s).length:Int)=(s.ak.length:Int):=by simpa using hl
       omega
      rw [zlx (xs:=zjY s) (ys:=s.ak) hl' (fun w y=>zah y&&eqT w y) false (some true) ?_ ?_]
      ·have z1:=zor (p:=eqT) (f:=id) (fun x y=>zqb) hl'
       rw [List.map_id,List.map_id]at z1
       have z2:((zjY s).zip s.ak).all (fun z=>zah z.2)=s.ak.all zah:=by
        have:=List.map_snd_zip (l₁:=zjY s) (l₂:=s.ak) (by omega)
        conv=>rhs;rw [←this]
        rw [List.all_map];rfl
       have z3:(((zjY s).zip s.ak).all fun z=>zah z.2&&eqT z.1 z.2)=(s.ak.all zah&&((zjY s).zip s.ak).all fun z=>eqT z.1 z.2):=by
        rw [←z2]
        rw [Bool.eq_iff_iff]
        simp only [yqal,yqba]
        exact⟨fun h=>⟨fun z hz=>(h z hz).1,fun z hz=>(h z hz).2⟩,fun h z hz=>⟨h.1 z hz,h.2 z hz⟩⟩
       have key:(((zjY s).zip s.ak).all fun z=>zah z.2&&eqT z.1 z.2)=true↔(∀t∈s.ak,zoc t s.ab=true)∧s.ak=zjY s:=by
        rw [z3,yqba,z1]
        constructor
        ·rintro⟨a1,a2⟩
         refine⟨fun t ht=> ?_,a2.symm⟩
         have q1:=yqal.1 a1 t ht
         rw [←a2]at ht
         have q2:=zDe (n:=s.ab) (hM t ht).1
         unfold zoc at H0 ⊢
         simp only [yqba]at H0 ⊢
         exact⟨q1,by rw [q2];exact H0.2⟩
        ·rintro⟨a1,a2⟩
         exact⟨yqal.2 fun t ht=>by have:=a1 t ht;unfold zoc at this;simp only [yqba]at this;exact this.1,a2.symm⟩
       by_cases hz:(((zjY s).zip s.ak).all fun z=>zah z.2&&eqT z.1 z.2)=true
       ·rw [if_pos hz];exact⟨_,rfl,fun _=>key.1 hz,fun _=>rfl⟩
       ·rw [if_neg hz];exact⟨_,rfl,by simp,fun h=>absurd (key.2 h) hz⟩
      ·intro i hi hj
       show zeO s (zjY s) i=_
       unfold zeO
       have Sj:=hS.way _ (List.getElem_mem hj)
       obtain⟨_,Ti,Si⟩:=hM _ (List.getElem_mem hi)
       rw [if_pos (by simpa using hi),zac hj,yqob,zo3 Sj,yqob]
       by_cases gj:zah s.ak[i]=true
       ·rw [if_pos gj,zac hi,yqob]
        obtain⟨r,er,fr⟩:=zAq (a:=(zjY s)[i]) (b:=s.ak[i]) Si
        rw [er,yqob]
        by_cases hr:r=true
        ·rw [if_pos hr]
         obtain⟨c1,c2,c3⟩:=fr.1 hr
         have c4:=congrArg List.length c3
         simp only [List.length_map]at c4
         obtain⟨v,ev,fv⟩:=zJb Ti (zB9 gj) c4
         rw [ev,yqob,zaW hi (by omega)]
         by_cases hv:v=0
         ·have:=zqb.2 (zrX c1 c2 (zwf c3 (fv.1 hv)))
          rw [if_neg (by simp [hv]),if_pos (by rw [gj,this];rfl)]
         ·rw [if_pos (by simpa using hv),if_neg (by
           simp only [yqba,not_and]
           intro _ h
           rw [zqb.1 h]at fv
           exact hv (fv.2 rfl))]
        ·rw [if_neg hr,if_neg (by
          simp only [yqba,not_and]
          intro _ h
          rw [zqb.1 h]at fr
          exact hr (fr.2 ⟨rfl,rfl,rfl⟩))]
       ·rw [if_neg gj,if_neg (by simp [gj])]
      ·show zeO s (zjY s) (zjY s).length=_
       unfold zeO
       rw [if_neg (by simp)]
   ·rw [if_neg g1]
    exact⟨_,rfl,no m1 (by unfold zoc;simp [g1])⟩
 ·rw [if_neg g0]
  exact⟨_,rfl,no m0 (by unfold zoc;simp [g0])⟩
theorem zHa {xs:List Int} {a b:Int} (h:xs.length≤2000000):zkT xs a b=some (xs.all fun y=>inB y a b):=by
 unfold zkT
 have h1:=zo4 (xs:=xs) (body:=fun s:Int=>zeE xs a b s) (fun i (_:Unit)=>i) (fun y _=>some (if inB y a b=true then .inl ()else .inr (some false))) (fun _=>some true)
  (fun i hi s=>by
   show zeE xs a b i=_
   unfold zeE
   rw [if_pos (by simpa using hi),zac hi,yqob,zmM,yqob,zaW hi (by omega)]
   cases inB xs[i] a b<;>simp [zws]) (fun s=>by
   show zeE xs a b xs.length=_
   unfold zeE
   rw [if_neg (by simp)]) ()
 rw [zyn (fun y=>inB y a b) false fun x _ s=>rfl]at h1
 refine h1.trans ?_
 cases(xs.all fun y=>inB y a b)<;>rfl
def zkv (s:zai):Prop:=1≤s.ak.length∧s.ak.length≤4∧(∀t∈s.ak,zoc t s.ab=true)∧s.ak=zjY s∧inB s.bm.length 1 3=true∧(∀y∈s.bm,0≤y∧y≤(s.ak.length:Int)-1)∧zaP s.ay=true
theorem zFH {s:zai}:(s.bm.all fun y=>inB y 0 ((s.ak.length:Int)-1))=true↔ ∀y∈s.bm,0≤y∧y≤(s.ak.length:Int)-1:=by
 rw [yqal]
 exact⟨fun h y hy=>zaY.1 (h y hy),fun h y hy=>zaY.2 (h y hy)⟩
theorem zGc {s:zai} (hS:zjF s): ∃g,zgY s=some g∧(g=true↔zkv s):=by
 unfold zgY
 by_cases h:1≤s.ak.length∧s.ak.length≤4
 ·obtain⟨sw,e,f⟩:=zHe hS h.1 h.2
  rw [e,yqob]
  have w:IntKind.i64.wrap ((s.ak.length:Int)-1)=(s.ak.length:Int)-1:=zaI (by omega) (by omega)
  by_cases hw:sw=true
  ·rw [if_pos hw,zmM,yqob]
   by_cases h2:inB s.bm.length 1 3=true
   ·rw [if_pos h2,w,zHa hS.at_,yqob]
    by_cases h3:(s.bm.all fun y=>inB y 0 ((s.ak.length:Int)-1))=true
    ·rw [if_pos h3,zsS hS.store,yqob]
     exact⟨_,rfl,fun h5=>⟨h.1,h.2,(f.1 hw).1,(f.1 hw).2,h2,zFH.1 h3,h5⟩,fun h5=>h5.2.2.2.2.2.2⟩
    ·rw [if_neg h3];exact⟨_,rfl,by simp,fun h5=>absurd (zFH.2 h5.2.2.2.2.2.1) h3⟩
   ·rw [if_neg h2];exact⟨_,rfl,by simp,fun h5=>absurd h5.2.2.2.2.1 h2⟩
  ·rw [if_neg hw];exact⟨_,rfl,by simp,fun h5=>absurd (f.2 ⟨h5.2.2.1,h5.2.2.2.1⟩) hw⟩
 ·have e:zfz s=some false:=by
   unfold zfz
   rw [zmM,yqob,if_neg (by rw [zaY];omega)]
  rw [e,yqob,if_neg (by simp)]
  exact⟨_,rfl,by simp,fun h5=>absurd ⟨h5.1,h5.2.1⟩ h⟩
theorem zBE {xs ys:List zab} (h: ∀t∈xs,zdT t) (hl:xs.length≤2000000): ∃r,zal xs ys (fun a b=>zcv a b)=some r∧(r=true↔xs=ys):=by
 unfold zal
 by_cases h3:((xs.length:Int) !=(ys.length:Int))=true
 ·rw [if_pos h3]
  exact⟨_,rfl,by simp,fun h=>by rw [h]at h3;simp at h3⟩
 ·rw [if_neg h3]
  have h3':xs.length=ys.length:=by
   have:(xs.length:Int)=ys.length:=by simpa using h3
   omega
  rw [zlx (xs:=xs) (ys:=ys) h3' eqT false (some true) ?_ ?_]
  ·have z1:=zor (p:=eqT) (f:=id) (fun x y=>zqb) h3'
   rw [List.map_id,List.map_id]at z1
   rw [←z1]
   cases((xs.zip ys).all fun z=>eqT z.1 z.2)<;>exact⟨_,rfl,by simp⟩
  ·intro i hi1 hj1
   show zaf xs ys (fun a b=>zcv a b) i=_
   unfold zaf
   rw [if_pos (by simpa using hi1),zac hi1,yqob,zac hj1,yqob,zaW hi1 (by omega)]
   dsimp only
   rw [zFa (h _ (List.getElem_mem hi1)),yqob]
   cases eqT xs[i] ys[i]<;>rfl
  ·show zaf xs ys (fun a b=>zcv a b) xs.length=_
   unfold zaf
   rw [if_neg (by simp)]
theorem zrH {s:zai} {t:zab} {x:zbh} (h:zdT t) (hx:zf2 t s.ab x):zaz s t=some x.al:=by
 unfold zaz zbM
 rw [zxa h,yqob,hx.at_,yqob,yqob]
theorem zGR {s:zai} (hS:zjF s): ∃g,zgV s=some g∧(g=true↔zkv s):=by
 unfold zgV
 rw [ziK,yqob]
 by_cases hb:inB s.ak.length 1 4=true
 ·have h:=zaY.1 hb
  rw [if_pos hb,ziK,yqob]
  by_cases h2:inB s.bm.length 1 3=true
  ·rw [if_pos h2,zGy hS.store,yqob]
   by_cases h3:zaP s.ay=true
   ·rw [if_neg (by simp [h3]),zr4 (fun t=> !zoc t s.ab) (fun t ht=>by unfold zhr;rw [zHk (hS.way t ht),yqob]) (by omega),yqob]
    by_cases h4:(s.ak.any fun t=> !zoc t s.ab)=true
    ·rw [if_pos h4]
     refine⟨_,rfl,by simp,fun h5=> ?_⟩
     obtain⟨t,ht,hn⟩:=List.any_eq_true.1 h4
     rw [h5.2.2.1 t ht]at hn
     simp at hn
    ·have hA: ∀t∈s.ak,zoc t s.ab=true:=fun t ht=>by
      cases hq:zoc t s.ab with
      |true=>rfl
      |false=>exact absurd (List.any_eq_true.2 ⟨t,ht,by simp [hq]⟩) h4
     have w:IntKind.i64.wrap ((s.ak.length:Int)-1)=(s.ak.length:Int)-1:=zaI (by omega) (by omega)
     have hat:=hS.at_
     rw [if_neg h4,zr4 (fun y=> !inB y 0 ((s.ak.length:Int)-1)) (fun y hy=>by unfold zhQ;rw [w,ziK,yqob]) (by omega),yqob]
     by_cases h5:(s.bm.any fun y=> !inB y 0 ((s.ak.length:Int)-1))=true
     ·rw [if_pos h5]
      refine⟨_,rfl,by simp,fun h6=> ?_⟩
      obtain⟨y,hy,hn⟩:=List.any_eq_true.1 h5
      rw [zaY.2 (h6.2.2.2.2.2.1 y hy)]at hn
      simp at hn
     ·have hB: ∀y∈s.bm,0≤y∧y≤(s.ak.length:Int)-1:=fun y hy=>by
       cases hq:inB y 0 ((s.ak.length:Int)-1)with
       |true=>exact zaY.1 hq
       |false=>exact absurd (List.any_eq_true.2 ⟨y,hy,by simp [hq]⟩) h5
      obtain⟨e0,m0⟩:=zm9 (s:=s) (by omega)
      obtain⟨e1,m1⟩:=zze (s:=s) (by omega) (by omega)
      obtain⟨x,hx,sx,x0,x3,_⟩:=zlR (hA _ m0)
      obtain⟨y,hy,sy,y0,y3,_⟩:=zlR (hA _ m1)
      rw [if_neg h5,e0,yqob,e1,yqob,zrH (hS.way _ m1) hy,yqob,zHE (hS.way _ m0) hx x0 x3 y0 y3,yqob]
      have hW:way (zcX s) (zjy (fun y:zbh=>y.ab==s.ab) (zcX s).af) x.al y.al=zjY s:=by unfold zjY kOf;rw [sx,sy]
      rw [hW]
      obtain⟨r,er,fr⟩:=zBE (xs:=s.ak) (ys:=zjY s) hS.way hS.ways
      rw [er,yqob]
      exact⟨_,rfl,fun hr=>⟨by omega,by omega,hA,fr.1 hr,h2,hB,h3⟩,fun h6=>fr.2 h6.2.2.2.1⟩
   ·rw [if_pos (by simp [h3])];exact⟨_,rfl,by simp,fun h5=>absurd h5.2.2.2.2.2.2 h3⟩
  ·rw [if_neg h2];exact⟨_,rfl,by simp,fun h5=>absurd h5.2.2.2.2.1 h2⟩
 ·rw [if_neg hb];exact⟨_,rfl,by simp,fun h5=>absurd (zaY.2 ⟨by have:=h5.1;omega,by have:=h5.2.1;omega⟩) hb⟩
def xOf (t:zab) (n:Str):zbh:=(t.af[(kOf t n).toNat]?).getD ⟨[],0,0⟩
theorem zFF {t:zab} {n:Str} {x:zbh} (h:zf2 t n x):xOf t n=x:=by
 unfold xOf kOf
 rw [(zvt h.at_).2.1];rfl
def zbG (s:zai):List Int:=s.bm.map fun y=>zj0 ((zaD s.ak y).getD noT) s.ab
def zGS (s:zai):Bool:=holds (zcX s) s.ab (xOf (zcX s) s.ab) (zIn (zbG s)) s.ay
theorem zEf {s:zai} (hS:zjF s) (hg:zkv s):zgB s=some (zGS s)∧zcY s=some (zGS s):=by
 obtain⟨h1,h4,hA,_,h3,hB,hR⟩:=hg
 have h3:=zaY.1 h3
 obtain⟨e0,m0⟩:=zm9 (s:=s) h1
 obtain⟨x,hx,k1,k2,k3⟩:=zCy (hA _ m0)
 have hT:=zGU hR
 have hW:=hS.store
 have hst: ∀y∈s.bm,∃tb x,zaD s.ak y=some tb∧tb∈s.ak∧zf2 tb s.ab x∧zj0 tb s.ab=x.al:=fun y hy=>by
  obtain⟨tb,q1,q2,_⟩:=znc (hB y hy).1 (by have:=(hB y hy).2;omega:y<s.ak.length)
  obtain⟨x,q3,q4,_⟩:=zlR (hA tb q2)
  exact⟨tb,x,q1,q2,q3,q4⟩
 let st:List Int:=s.bm.map fun y=>zj0 ((zaD s.ak y).getD noT) s.ab
 have hn:st.length=s.bm.length:=by simp [st]
 have hl:st.length≤2000000:=by have:=hS.at_;omega
 have n1:=zG8 (s:=s) (st:=st) hn hl fun i hi=>by
  have hi':i<s.bm.length:=by omega
  obtain⟨tb,x,q1,q2,q3,q4⟩:=hst _ (List.getElem_mem hi')
  refine⟨s.bm[i],tb,_,x,zac hi',q1,zo6 (hS.way _ q2),q3.at_, ?_⟩
  simp only [st,List.getElem_map,q1,Option.getD_some,q4]
 have n2:=zGl (s:=s) (st:=st) hn hl fun i hi=>by
  have hi':i<s.bm.length:=by omega
  obtain⟨tb,x,q1,q2,q3,q4⟩:=hst _ (List.getElem_mem hi')
  refine⟨tb, ?_, ?_⟩
  ·unfold zam
   rw [zac hi',yqob,q1,yqob]
  ·rw [zrH (hS.way _ q2) q3]
   simp only [st,List.getElem_map,q1,Option.getD_some,q4]
 unfold zgB zcY
 have S0:=hS.way _ m0
 have hnm:=hS.name
 have hask:zdP (zcX s) s.ab s.ay=some true:=by
  rw [zD8 S0 hW];unfold zGf;rw [hA _ m0,hR];rfl
 rw [e0,yqob,yqob,n1,n2,yqob,yqob,zE9 S0 (by omega) hnm hx hW.1 hT hask,zEx S0 k1 hnm k3 hx hW.1 hT]
 unfold zGS
 rw [zFF hx]
 exact⟨rfl,rfl⟩
theorem zBL {s:zai} (hS:zjF s) (hg:zkv s): ∃r,zgB s=some r∧zcY s=some r:=⟨_,zEf hS hg⟩
abbrev bl (a b:yqS):Bool:=Op.bytesLess a b
theorem zko: ∀a:yqS,bl a a=false
 | []=>rfl
 |x::a=>by
  have h: ¬x<x:=fun h=>by have:=UInt8.lt_iff_toNat_lt.1 h;omega
  show Op.bytesLess (x::a) (x::a)=false
  simp only [Op.bytesLess,h,decide_false,Bool.false_or,beq_self_eq_true,Bool.true_and]
  exact zko a
theorem zyW (x y:UInt8) (a b:yqS):bl (x::a) (y::b)=true↔x.toNat<y.toNat∨x=y∧bl a b=true:=by
 show Op.bytesLess (x::a) (y::b)=true↔_
 simp only [Op.bytesLess,Bool.or_eq_true,decide_eq_true_eq,yqba,beq_iff_eq,UInt8.lt_iff_toNat_lt]
theorem zdZ: ∀{a b c:yqS},bl a b=true→bl b c=true→bl a c=true
 | [],_, [],_,h=>by rename_i b _;cases b<;>cases h
 | [],_,_::_,_,_=>rfl
 |_::_, [],_,h,_=>by cases h
 |_::_,_::_, [],_,h=>by cases h
 |x::a,y::b,z::c,h1,h2=>by
  rw [zyW]at*
  rcases h1 with h1|⟨rfl,h1⟩<;>rcases h2 with h2|⟨rfl,h2⟩
  ·exact .inl (by omega)
  ·exact .inl h1
  ·exact .inl h2
  ·exact .inr ⟨rfl,zdZ h1 h2⟩
theorem zFU: ∀a b:yqS,bl a b=true∨a=b∨bl b a=true
 | [], []=> .inr (.inl rfl)
 | [],_::_=> .inl rfl
 |_::_, []=> .inr (.inr rfl)
 |x::a,y::b=>by
  rw [zyW,zyW]
  rcases Nat.lt_trichotomy x.toNat y.toNat with h|h|h
  ·exact .inl (.inl h)
  ·have h0:x=y:=UInt8.toNat_inj.1 h
   subst h0
   rcases zFU a b with h1|h1|h1
   ·exact .inl (.inr ⟨rfl,h1⟩)
   ·exact .inr (.inl (by rw [h1]))
   ·exact .inr (.inr (.inr ⟨rfl,h1⟩))
  ·exact .inr (.inr (.inl h))
theorem zrw {a b:yqS} (h:bl a b=true):bl b a=false:=by
 cases h2:bl b a with
 |false=>rfl
 |true=>have:=zdZ h h2;rw [zko]at this;cases this
theorem zmx {a b:yqS} (h:bl a b=true):a≠b:=by
 rintro rfl;rw [zko]at h;cases h
theorem zmW {a b:yqS} (h:bl a b=false) (hn:a≠b):bl b a=true:=by
 rcases zFU a b with h1|h1|h1
 ·rw [h]at h1;cases h1
 ·exact absurd h1 hn
 ·exact h1
section
variable {α:Type} (key:α→yqS)
def ztA (l:List α):Prop:=l.Pairwise fun a b=>bl (key a) (key b)=true
def zjc (x:α):List α→List α
 | []=> [x]
 |y::l=>if bl (key x) (key y)=true then x::y::l else if key x=key y then x::l else y::zjc x l
variable {key}
theorem ztA.fy {l:List α} (h:ztA key l) {a b:α} (ha:a∈l) (hb:b∈l) (e:key a=key b):a=b:=by
 induction l with
 |nil=>cases ha
 |cons y l ih=>
  have h1:=List.pairwise_cons.1 h
  rcases yqmc.1 ha with q1|q1<;>rcases yqmc.1 hb with q2|q2
  ·rw [q1,q2]
  ·exact absurd (q1▸e) (zmx (h1.1 _ q2))
  ·exact absurd (q2▸e.symm) (zmx (h1.1 _ q1))
  ·exact ih h1.2 q1 q2
theorem zrJ {x:α}: ∀{l:List α},ztA key l→ ∀y,y∈zjc key x l↔y=x∨y∈l∧key y≠key x
 | [],_,y=>by simp [zjc]
 |z::l,h,y=>by
  have h1:=List.pairwise_cons.1 h
  unfold zjc
  split
  ·rename_i hb
   constructor
   ·intro hy
    rcases yqmc.1 hy with rfl|hy
    ·exact .inl rfl
    ·refine .inr ⟨hy, ?_⟩
     rcases yqmc.1 hy with rfl|hy
     ·exact(zmx hb).symm
     ·exact(zmx (zdZ hb (h1.1 _ hy))).symm
   ·rintro(rfl|⟨hy,_⟩)
    ·simp
    ·exact List.mem_cons_of_mem _ hy
  ·rename_i hb
   split
   ·rename_i he
    constructor
    ·intro hy
     rcases yqmc.1 hy with rfl|hy
     ·exact .inl rfl
     ·exact .inr ⟨List.mem_cons_of_mem _ hy,fun e=>zmx (h1.1 _ hy) (by rw [e,he])⟩
    ·rintro(rfl|⟨hy,hn⟩)
     ·simp
     ·rcases yqmc.1 hy with rfl|hy
      ·exact absurd he.symm hn
      ·exact List.mem_cons_of_mem _ hy
   ·rename_i he
    rw [yqmc,zrJ h1.2]
    constructor
    ·rintro(rfl|rfl|⟨hy,hn⟩)
     ·exact .inr ⟨by simp,fun e=>he e.symm⟩
     ·exact .inl rfl
     ·exact .inr ⟨List.mem_cons_of_mem _ hy,hn⟩
    ·rintro(rfl|⟨hy,hn⟩)
     ·exact .inr (.inl rfl)
     ·rcases yqmc.1 hy with rfl|hy
      ·exact .inl rfl
      ·exact .inr (.inr ⟨hy,hn⟩)
theorem zoR {x:α}: ∀{l:List α},ztA key l→ztA key (zjc key x l)
 | [],_=>by simp [zjc,ztA]
 |z::l,h=>by
  have h1:=List.pairwise_cons.1 h
  unfold zjc
  split
  ·rename_i hb
   refine List.pairwise_cons.2 ⟨fun y hy=> ?_,h⟩
   rcases yqmc.1 hy with rfl|hy
   ·exact hb
   ·exact zdZ hb (h1.1 _ hy)
  ·rename_i hb
   split
   ·rename_i he
    exact List.pairwise_cons.2 ⟨fun y hy=>by rw [he];exact h1.1 _ hy,h1.2⟩
   ·rename_i he
    refine List.pairwise_cons.2 ⟨fun y hy=> ?_,zoR h1.2⟩
    rcases(zrJ h1.2 y).1 hy with rfl|⟨hy,_⟩
    ·exact zmW (by simpa using hb) he
    ·exact h1.1 _ hy
theorem ztA.ext: ∀{a b:List α},ztA key a→ztA key b→(∀x,x∈a↔x∈b)→a=b
 | [], [],_,_,_=>rfl
 | [],y::b,_,_,h=>absurd ((h y).2 (by simp)) (by simp)
 |x::a, [],_,_,h=>absurd ((h x).1 (by simp)) (by simp)
 |x::a,y::b,ha,hb,h=>by
  have h1:=List.pairwise_cons.1 ha
  have h2:=List.pairwise_cons.1 hb
  have e:x=y:=by
   rcases yqmc.1 ((h x).1 (by simp))with e|hx
   ·exact e
   ·rcases yqmc.1 ((h y).2 (by simp))with e|hy
    ·exact e.symm
    ·have:=zdZ (h1.1 _ hy) (h2.1 _ hx)
     rw [zko]at this;cases this
  subst e
  rw [ztA.ext h1.2 h2.2 fun z=> ?_]
  constructor
  ·intro hz
   rcases yqmc.1 ((h z).1 (List.mem_cons_of_mem _ hz))with rfl|hz2
   ·have:=h1.1 _ hz;rw [zko]at this;cases this
   ·exact hz2
  ·intro hz
   rcases yqmc.1 ((h z).2 (List.mem_cons_of_mem _ hz))with rfl|hz2
   ·have:=h2.1 _ hz;rw [zko]at this;cases this
   ·exact hz2
theorem ztA.filter {l:List α} (h:ztA key l) (p:α→Bool):ztA key (l.filter p):=List.Pairwise.filter p h
theorem ztA.sub {a b:List α} (h:ztA key b) (hs:a.Sublist b):ztA key a:=List.Pairwise.sublist hs h
theorem zAb {x:α}: ∀(l:List α),(zjc key x l).length≤l.length+1
 | []=>by simp [zjc]
 |y::l=>by
  unfold zjc
  have:=zAb (x:=x) l
  split
  ·simp
  ·split
   ·simp
   ·simp only [yqlc];omega
end
def zln {α:Type} (r:α→α→Bool):List α→Bool
 | []=>true
 | [_]=>true
 |x::y::l=>r x y&&zln r (y::l)
theorem zpe {α:Type} {r:α→α→Bool} (ht: ∀a b c,r a b=true→r b c=true→r a c=true): ∀{l:List α},zln r l=true↔l.Pairwise fun a b=>r a b=true
 | []=>by simp [zln]
 | [_]=>by simp [zln]
 |x::y::l=>by
  rw [zln,yqba,zpe ht]
  constructor
  ·rintro⟨h1,h2⟩
   refine List.pairwise_cons.2 ⟨fun z hz=> ?_,h2⟩
   rcases yqmc.1 hz with rfl|hz
   ·exact h1
   ·exact ht _ _ _ h1 ((List.pairwise_cons.1 h2).1 z hz)
  ·intro h
   have h:=List.pairwise_cons.1 h
   exact⟨h.1 y (by simp),h.2⟩
theorem zyY {α:Type} {r:α→α→Bool} {l:List α} {q:Nat} (h:q+1<l.length):zln r (l.drop q)=(r l[q] l[q+1]&&zln r (l.drop (q+1))):=by
 rw [List.drop_eq_getElem_cons (show q<l.length by omega),List.drop_eq_getElem_cons h,zln]
def zjI {α:Type} (lt:α→Bool) (l:List α):Nat:=(l.takeWhile lt).length
theorem zqr {α:Type} (lt:α→Bool): ∀l:List α,zjI lt l≤l.length
 | []=>by simp [zjI]
 |x::l=>by
  have:=zqr lt l
  unfold zjI at this ⊢
  rw [List.takeWhile_cons]
  split<;>simp<;>omega
theorem zyV {α:Type} {lt:α→Bool}: ∀{l:List α} {i:Nat} (h:i<zjI lt l),lt (l[i]'(Nat.lt_of_lt_of_le h (zqr lt l)))=true
 |x::l,i,h=>by
  unfold zjI at h
  rw [List.takeWhile_cons]at h
  split at h
  ·rename_i hx
   cases i with
   |zero=>exact hx
   |succ i=>exact zyV (l:=l) (i:=i) (by unfold zjI;simpa using h)
  ·simp at h
theorem zCW {α:Type} {lt:α→Bool}: ∀{l:List α} (h:zjI lt l<l.length),lt l[zjI lt l]=false
 |x::l,h=>by
  by_cases hx:lt x=true
  ·have e:zjI lt (x::l)=zjI lt l+1:=by unfold zjI;rw [List.takeWhile_cons,if_pos hx];rfl
   have:=zCW (l:=l) (lt:=lt) (by rw [e]at h;simpa using h)
   simp only [e,List.getElem_cons_succ]
   exact this
  ·have e:zjI lt (x::l)=0:=by unfold zjI;rw [List.takeWhile_cons,if_neg hx];rfl
   simp only [e,List.getElem_cons_zero]
   simpa using hx
theorem zGz {α β:Type} {xs:List α} {body:Int × Int→Option ((Int × Int) ⊕ Option β)} {fin:Int→Option β} (lt:α→Bool) (hm: ∀i j (hj:j<xs.length) (hi:i≤j),lt xs[j]=true→lt xs[i]=true)
  (hs: ∀i j:Nat,i<j→j≤xs.length→(h:(i+j)/2<xs.length)→body ((i:Int),(j:Int))=some (.inl (if lt xs[(i+j)/2]=true then((((i+j)/2+1:Nat):Int),(j:Int))else((i:Int),(((i+j)/2:Nat):Int)))))
  (he: ∀i:Nat,i≤xs.length→body ((i:Int),(i:Int))=some (.inr (fin i))):zak body (0,(xs.length:Int))=fin (zjI lt xs):=by
 have key: ∀n i j:Nat,j-i≤n→i≤zjI lt xs→zjI lt xs≤j→j≤xs.length→zak body ((i:Int),(j:Int))=fin (zjI lt xs):=by
  intro n
  induction n with
  |zero=>
   intro i j h1 h2 h3 h4
   have:i=j:=by omega
   subst this
   have:i=zjI lt xs:=by omega
   rw [zbL,he i h4,this]
  |succ n ih=>
   intro i j h1 h2 h3 h4
   by_cases hij:i=j
   ·subst hij
    have:i=zjI lt xs:=by omega
    rw [zbL,he i h4,this]
   ·have hlt:(i+j)/2<xs.length:=by omega
    rw [zbL,hs i j (by omega) h4 hlt]
    by_cases hc:lt xs[(i+j)/2]=true
    ·rw [if_pos hc]
     refine ih _ _ (by omega) ?_ h3 h4
     by_cases hp:(i+j)/2<zjI lt xs
     ·omega
     ·have h5:zjI lt xs<xs.length:=by omega
      have:=zCW h5
      rw [hm _ _ hlt (by omega) hc]at this
      cases this
    ·rw [if_neg hc]
     refine ih _ _ (by omega) h2 ?_ (by omega)
     by_cases hp:(i+j)/2<zjI lt xs
     ·exact absurd (zyV hp) hc
     ·omega
 exact key xs.length 0 xs.length (by omega) (by omega) (zqr lt xs) (Nat.le_refl _)
theorem zz6 {α:Type} {key:α→yqS} {x:α}: ∀{l:List α},ztA key l→zjc key x l=(match l[zjI (fun y=>bl (key y) (key x)) l]? with
  |some y=>if key y=key x then l.set (zjI (fun y=>bl (key y) (key x)) l) x else l.take (zjI (fun y=>bl (key y) (key x)) l)++ [x]++l.drop (zjI (fun y=>bl (key y) (key x)) l)
  |none=>l.take (zjI (fun y=>bl (key y) (key x)) l)++ [x]++l.drop (zjI (fun y=>bl (key y) (key x)) l))
 | [],_=>by simp [zjc,zjI]
 |y::l,h=>by
  have h1:=List.pairwise_cons.1 h
  unfold zjc
  by_cases hb:bl (key x) (key y)=true
  ·have e:zjI (fun z=>bl (key z) (key x)) (y::l)=0:=by unfold zjI;rw [List.takeWhile_cons,if_neg (by rw [zrw hb];simp)];rfl
   rw [if_pos hb,e]
   simp [(zmx hb).symm]
  ·rw [if_neg hb]
   by_cases hk:key x=key y
   ·have e:zjI (fun z=>bl (key z) (key x)) (y::l)=0:=by unfold zjI;rw [List.takeWhile_cons,if_neg (by rw [hk,zko];simp)];rfl
    rw [if_pos hk,e]
    simp [hk]
   ·have hyx:=zmW (by simpa using hb) hk
    have e:zjI (fun z=>bl (key z) (key x)) (y::l)=zjI (fun z=>bl (key z) (key x)) l+1:=by unfold zjI;rw [List.takeWhile_cons,if_pos hyx];rfl
    rw [if_neg hk,e,zz6 h1.2]
    simp only [List.getElem?_cons_succ]
    split
    ·split<;>simp
    ·simp
def zGd (a b:Str):Int:=if bl a b=true then-1 else if a=b then 0 else 1
@[simp] theorem zEZ (a:Str):zdQ a=some false:=by simp [zdQ]
@[simp] theorem zJq (a b:Str):zef a b=some (zGd a b):=by
 unfold zef zGd
 simp only [zEZ,yqob,yqft,if_false]
 by_cases h:bl a b=true
 ·have:Op.bytesLess a b=true:=h
  simp [this]
 ·have h1:Op.bytesLess a b=false:=by simpa using h
  by_cases he:a=b
  ·subst he;simp [h1]
  ·simp [h1,he]
theorem zGw {a b:Str}:decide (zGd a b<0)=bl a b:=by
 unfold zGd
 cases h:bl a b with
 |true=>simp
 |false=>by_cases he:a=b<;>simp [he]
theorem zHi {a b:Str}:(zGd a b==0)=decide (a=b):=by
 unfold zGd
 cases h:bl a b with
 |true=>simp [zmx h]
 |false=>by_cases he:a=b<;>simp [he]
theorem zIh {i j:Nat} (h:i≤j) (hj:j≤2000000):IntKind.i64.wrap (Int.fdiv (IntKind.u64.wrap (IntKind.i64.wrap ((i:Int)+(j:Int)))) (2^(min ((1:Int)).toNat (IntKind.bits .u64))))=(((i+j)/2:Nat):Int):=by
 have e1:IntKind.i64.wrap ((i:Int)+(j:Int))=((i+j:Nat):Int):=by rw [zaI (by omega) (by omega)];simp
 have e2:IntKind.u64.wrap ((i+j:Nat):Int)=((i+j:Nat):Int):=by
  simp only [IntKind.wrap,IntKind.bits,IntKind.signed]
  simp
  omega
 have e3:(2:Int)^(min ((1:Int)).toNat (IntKind.bits .u64))=((2:Nat):Int):=rfl
 rw [e1,e2,e3,Int.fdiv_eq_ediv_of_nonneg _ (by omega),←Int.natCast_ediv,zaI (by omega) (by omega)]
theorem zHz {i:Nat} (h:i≤2000000):IntKind.i64.wrap ((i:Int)+1)=((i+1:Nat):Int):=by rw [zaI (by omega) (by omega)];simp
abbrev zij (l:List zaa):Prop:=ztA (fun w:zaa=>w.ae) l
abbrev zjJ (l:List zaa) (k:Str):Nat:=zjI (fun w:zaa=>bl w.ae k) l
theorem zIo {l:List zaa} {k:Str} (hl:l.length≤2000000) (hr:zij l):zcw l k=some (((zjJ l k:Nat):Int),(match l[zjJ l k]? with|some w=>decide (w.ae=k)|none=>false)):=by
 unfold zcw zaF
 have hc: ∀w:zaa,zda w k=some (zGd w.ae k):=fun w=>by simp [zda]
 have h:=zGz (xs:=l) (body:=fun s:Int × Int=>zag l k (fun y0_ y1_=>zda y0_ y1_) s.1 s.2) (fin:=fun i=>zaA l k (fun y0_ y1_=>zda y0_ y1_) i) (fun w:zaa=>bl w.ae k)
  (fun i j hj hi h=>by
   rcases Nat.lt_or_ge i j with hij|hij
   ·exact zdZ ((List.pairwise_iff_getElem.1 hr) i j (by omega) hj hij) h
   ·have:i=j:=by omega
    subst this;exact h)
  (fun i j hij hj hmid=>by
   show zag l k _ (i:Int) (j:Int)=_
   unfold zag
   rw [if_pos (by simpa using hij),zIh (by omega) (by omega),zac hmid,yqob]
   simp only [hc,yqob,zGw,zHz (show(i+j)/2≤2000000 by omega)]
   cases bl l[(i+j)/2].ae k<;>rfl)
  (fun i hi=>by
   show zag l k _ (i:Int) (i:Int)=_
   unfold zag
   rw [if_neg (by simp)])
 rw [h]
 unfold zaA
 show Option.bind (if decide (((zjJ l k:Nat):Int)<l.length)=true then _ else _) _=_
 by_cases hp:zjJ l k<l.length
 ·rw [if_pos (by simpa using hp),zac hp,yqob]
  simp only [hc,yqob,zHi,List.getElem?_eq_getElem hp]
 ·rw [if_neg (by simpa using hp),List.getElem?_eq_none (by omega)]
  rfl
theorem zqk {l:List zaa} {w:zaa} (hl:l.length≤2000000) (hr:zij l):zdU l w=some (zjc (fun w:zaa=>w.ae) w l):=by
 unfold zdU
 rw [zIo hl hr,yqob,zz6 hr]
 show(if(match l[zjJ l w.ae]? with|some w'=>decide (w'.ae=w.ae)|none=>false)=true then _ else _)=_
 have hle:zjJ l w.ae≤l.length:=zqr _ _
 have hI:zrB l ((zjJ l w.ae:Nat):Int) [w]=some (l.take (zjJ l w.ae)++ [w]++l.drop (zjJ l w.ae)):=zae ⟨by omega,by omega,by simp,by simp only [yqls];omega⟩
 by_cases hp:zjJ l w.ae<l.length
 ·rw [List.getElem?_eq_getElem hp]
  by_cases hk:(l[zjJ l w.ae]).ae=w.ae
  ·simp only [hk,decide_true,if_true,zac hp,yqob]
   rfl
  ·simp only [hk,decide_false,yqft,if_false]
   rw [hI];rfl
 ·rw [List.getElem?_eq_none (by omega)]
  simp only [yqft,if_false]
  rw [hI];rfl
theorem zoz (ks:List Str):zn8 ks=zln bl ks:=by
 have key: ∀n q,q+n+1=ks.length→(List.range' (q+1) n).all (zgL ks)=zln bl (ks.drop q):=by
  intro n
  induction n with
  |zero=>
   intro q hq
   rw [List.drop_eq_getElem_cons (show q<ks.length by omega),List.drop_eq_nil_of_le (show ks.length≤q+1 by omega)]
   rfl
  |succ n ih=>
   intro q hq
   rw [List.range'_succ,List.all_cons,ih (q+1) (by omega),zyY (show q+1<ks.length by omega)]
   congr 1
   unfold zgL
   have hb:(q+1==0)=false:=rfl
   rw [hb,Bool.false_or,Nat.add_sub_cancel,List.getElem?_eq_getElem (show q<ks.length by omega),List.getElem?_eq_getElem (show q+1<ks.length by omega)]
   rfl
 cases ks with
 |nil=>rfl
 |cons k l=>
  unfold zn8
  rw [yqlc,List.range_eq_range',List.range'_succ,List.all_cons]
  have:=key l.length 0 (by simp)
  rw [List.drop_zero]at this
  rw [Nat.zero_add]at this
  rw [show 0+1=1 from rfl,this]
  rfl
theorem znw {α β:Type} (f:α→β) (r:β→β→Bool): ∀l:List α,zln r (l.map f)=zln (fun a b=>r (f a) (f b)) l
 | []=>rfl
 | [_]=>rfl
 |x::y::l=>by
  have:=znw f r (y::l)
  simp only [List.map_cons,zln]at this ⊢
  rw [this]
theorem zr1 {l:List zaa} (h:zeF l=true):zij l:=by
 unfold zeF at h
 simp only [yqba]at h
 have h1:=h.2.2
 rw [zoz,znw]at h1
 exact(zpe (r:=fun a b:zaa=>bl a.ae b.ae) fun a b c p q=>zdZ p q).1 h1
theorem zv6 {t:zab} (h:zah t=true):ztA (fun x:zbh=>x.ab) t.af:=by
 unfold zah at h
 simp only [yqba]at h
 have h1:=h.2
 have h2:zn8 (t.af.map (·.ab))=true:=by
  unfold zn8
  rw [List.length_map,yqal]
  intro i hi
  have h3:=yqal.1 h1 i hi
  unfold zpI at h3
  simp only [yqba]at h3
  have hi':i<t.af.length:=List.mem_range.1 hi
  have e: ∀j:Nat,(((t.af.map (·.ab))[j]?).getD [])=((t.af[j]?).getD ⟨[],0,0⟩).ab:=by
   intro j
   rw [List.getElem?_map]
   cases t.af[j]?<;>rfl
  unfold zgL
  rw [e,e]
  exact h3.2
 rw [zoz,znw]at h2
 exact(zpe (r:=fun a b:zbh=>bl a.ab b.ab) fun a b c p q=>zdZ p q).1 h2
theorem zvz {t:zab} {x:zbh} (h:zah t=true) (hx:x∈t.af):zf2 t x.ab x:=by
 have h1:zjy (fun y:zbh=>y.ab==x.ab) t.af≥0:=by
  have:=zni (fun y:zbh=>y.ab==x.ab) t.af
  rw [show(t.af.any fun y=>y.ab==x.ab)=true from List.any_eq_true.2 ⟨x,hx,by simp⟩]at this
  exact of_decide_eq_true this
 obtain⟨y,h2,h3,h4⟩:=zzd h1
 have h5:y=x:=(zv6 h).fy h4 hx (by simpa using h3)
 subst h5
 have h6:=zaY.1 (zeB h hx).2
 exact⟨h2,rfl,h6.1,h6.2⟩
theorem ziL {t:zab} (h:zah t=true):2≤t.ao.length∧t.ao.length≤4∧t.af.length≤3:=by
 unfold zah at h
 simp only [yqba,decide_eq_true_eq]at h
 have h1:=zaY.1 h.1.1.2.2
 have h2:=h.1.2
 omega
theorem zqC {t:zab} {r:zch} (hs:Small r.au) (h:zaq t r=true):zun t r:=by
 unfold zaq at h
 simp only [yqba,beq_iff_eq]at h
 exact⟨by have:=h.1;omega,hs⟩
theorem zvL {t:zab} {r:zch} (hc:1≤t.ao.length) (h:zun t r):zaD r.au 0=some (zfY r 0):=(zsb h (by omega) (by omega)).1
theorem zsU {t:zab} {r:zch} (hc:1≤t.ao.length) (h:zun t r):r.au≠ []:=by
 intro e
 have:=h.len
 rw [e]at this
 simp at this
 omega
def zkP (a:zao):Prop:=Small a.bg.au∧Small a.bh.au
def zkB (t:zab) (a:zao):Bool:=
 if a.aj=1 then(a.bg.au.length:Int)==0&&zaq t a.bh else
 if a.aj=2 then zaq t a.bg&&(a.bh.au.length:Int)==0 else
 if a.aj=3 then zaq t a.bg&&(zaq t a.bh&&zfY a.bg 0==zfY a.bh 0)else false
theorem zuP {t:zab} {a:zao} (hc:1≤t.ao.length) (h:zkP a):zgE t a=some (zkB t a):=by
 unfold zgE zkB
 by_cases h1:a.aj=1
 ·rw [if_pos (by simpa using h1),if_pos h1,zlF h.2,yqob]
  cases((a.bg.au.length:Int)==0)<;>simp
 rw [if_neg (by simpa using h1),if_neg h1]
 by_cases h2:a.aj=2
 ·rw [if_pos (by simpa using h2),if_pos h2,zlF h.1,yqob]
  cases((a.bh.au.length:Int)==0)<;>simp
 rw [if_neg (by simpa using h2),if_neg h2]
 by_cases h3:a.aj=3
 ·rw [if_pos (by simpa using h3),if_pos h3,zlF h.1,zlF h.2,yqob,yqob]
  cases e1:zaq t a.bg with
  |false=>simp
  |true=>
   cases e2:zaq t a.bh with
   |false=>simp
   |true=>simp [zvL hc (zqC h.1 e1),zvL hc (zqC h.2 e2)]
 rw [if_neg (by simpa using h3),if_neg h3]
theorem zAi {t:zab} {a:zao} (hc:1≤t.ao.length) (h:zkP a):zdu t a=some (zkB t a):=by
 unfold zdu zkB
 by_cases h1:a.aj=1
 ·rw [if_pos (by simpa using h1),if_pos h1,zlr h.2,yqob]
  cases((a.bg.au.length:Int)==0)<;>simp
 rw [if_neg (by simpa using h1),if_neg h1]
 by_cases h2:a.aj=2
 ·rw [if_pos (by simpa using h2),if_pos h2,zlr h.1,yqob]
 rw [if_neg (by simpa using h2),if_neg h2]
 by_cases h3:a.aj=3
 ·rw [if_pos (by simpa using h3),if_pos h3,zlr h.1,zlr h.2,yqob,yqob]
  cases e1:zaq t a.bg with
  |false=>simp
  |true=>
   cases e2:zaq t a.bh with
   |false=>simp
   |true=>simp [zvL hc (zqC h.1 e1),zvL hc (zqC h.2 e2)]
 rw [if_neg (by simpa using h3),if_neg h3]
structure zDD (t:zab) (a:zao):Prop where
 old:a.aj≠1→zun t a.bg
 new:a.aj≠2→zun t a.bh
 kind:a.aj=1∨a.aj=2∨a.aj=3
 same:a.aj=3→zfY a.bg 0=zfY a.bh 0
theorem zHW {t:zab} {a:zao} (h:zkP a) (hg:zkB t a=true):zDD t a:=by
 unfold zkB at hg
 by_cases h1:a.aj=1
 ·rw [if_pos h1,yqba]at hg
  exact⟨fun k=>absurd h1 k,fun _=>zqC h.2 hg.2, .inl h1,fun k=>by omega⟩
 rw [if_neg h1]at hg
 by_cases h2:a.aj=2
 ·rw [if_pos h2,yqba]at hg
  exact⟨fun _=>zqC h.1 hg.1,fun k=>absurd h2 k, .inr (.inl h2),fun k=>by omega⟩
 rw [if_neg h2]at hg
 by_cases h3:a.aj=3
 ·rw [if_pos h3,yqba,yqba,beq_iff_eq]at hg
  exact⟨fun _=>zqC h.1 hg.1,fun _=>zqC h.2 hg.2.1, .inr (.inr h3),fun _=>hg.2.2⟩
 rw [if_neg h3]at hg
 cases hg
def ztB (t:zab) (a:zao) (x:zbh):Str:=if a.aj=1 then []else zeq t x.ab x.bj a.bg
def zq7 (t:zab) (a:zao) (x:zbh):Str:=if a.aj=2 then []else zeq t x.ab x.bj a.bh
def zqG (k n:Str) (x:zbh):List DOp:=if k≠ []∧k≠n∧x.al≥1 then [⟨3,k, [],0⟩]else []
def ztS (n:Str) (x:zbh):List DOp:=if n≠ []∧x.al≥2 then [⟨2,n, [],0⟩]else []
def zqD (t:zab) (a:zao) (x:zbh):List DOp:=zqG (ztB t a x) (zq7 t a x) x++ztS (zq7 t a x) x
def zmk (t:zab) (a:zao):List DOp:=
 if a.aj=1 then [⟨6,(zfv t a.bh).ae, [],0⟩,⟨2,(zfv t a.bh).ae,(zfv t a.bh).az,0⟩]else
 if a.aj=2 then [⟨7,(zfv t a.bg).ae,(zfv t a.bg).az,0⟩,⟨3,(zfv t a.bg).ae, [],0⟩]else
 [⟨7,(zfv t a.bg).ae,(zfv t a.bg).az,0⟩,⟨2,(zfv t a.bg).ae,(zfv t a.bh).az,0⟩]
def zvK (t:zab) (a:zao):List DOp:=t.af.foldl (fun o x=>o++zqD t a x) (zmk t a)
theorem zE1 (k n:Str) (x:zbh):(zqG k n x).length≤1:=by unfold zqG;split<;>simp
theorem zGO (n:Str) (x:zbh):(ztS n x).length≤1:=by unfold ztS;split<;>simp
theorem zqv (t:zab) (a:zao) (x:zbh):(zqD t a x).length≤2:=by
 unfold zqD
 have:=zE1 (ztB t a x) (zq7 t a x) x
 have:=zGO (zq7 t a x) x
 rw [yqla];omega
theorem zot (t:zab) (a:zao):(zmk t a).length=2:=by unfold zmk;split<;>(try split)<;>rfl
theorem zvr {o p:List DOp} (h:o.length≤5000000) (hn:p.length≤5000000):((o.length:Int)+(p.length:Int))*48≤140737488355328∧(o.length:Int)+(p.length:Int)≤140737488355328:=by omega
theorem zDj {t:zab} {a:zao} {x:zbh} (ht:t.ab.length≤2000000) (hn:x.ab.length≤2000000) (hx:zf2 t x.ab x) (ha:zDD t a):zhz t x a=some (zqD t a x):=by
 have e1:zhz t x a=zgT t x a (ztB t a x):=by
  unfold zhz ztB
  by_cases h1:a.aj=1
  ·rw [if_neg (by simp [h1]),if_pos h1];rfl
  ·rw [if_pos (by simpa using h1),if_neg h1,zrA ht hn hx (ha.old h1)];rfl
 have e2: ∀k,zgT t x a k=zfh x k (zq7 t a x):=by
  intro k
  unfold zgT zq7
  by_cases h1:a.aj=2
  ·rw [if_neg (by simp [h1]),if_pos h1]
  ·rw [if_pos (by simpa using h1),if_neg h1,zrA ht hn hx (ha.new h1)];rfl
 have e3: ∀(n:Str) (o:List DOp),o.length≤5→zgW x n o=some (o++ztS n x):=by
  intro n o ho
  unfold zgW ztS
  by_cases h1:n≠ []∧x.al≥2
  ·rw [if_pos (by simpa using h1),if_pos h1,zae (zvr (by omega) (by simp))]
  ·rw [if_neg (by simpa using h1),if_neg h1,List.append_nil]
 have e4: ∀(k n:Str),zfh x k n=some (zqG k n x++ztS n x):=by
  intro k n
  unfold zfh zqG
  by_cases h1:k≠ []∧k≠n∧x.al≥1
  ·rw [if_pos (by simpa [and_assoc]using h1),if_pos h1,zae (zvr (by simp) (by simp)),e3 _ _ (by simp)]
  ·rw [if_neg (by simpa [and_assoc]using h1),if_neg h1,e3 _ _ (by simp)]
 rw [e1,e2,e4];rfl
theorem zAx {t:zab} {a:zao} (hc:1≤t.ao.length) (ht:t.ab.length≤2000000) (ha:zDD t a):ziJ t a=some (zmk t a):=by
 unfold ziJ zmk
 by_cases h1:a.aj=1
 ·have hr:=ha.new (by omega)
  rw [if_pos (by simpa using h1),if_pos h1,zoC ht hr.small (zsU hc hr)];rfl
 have hr:=ha.old h1
 rw [if_neg (by simpa using h1),if_neg h1,zoC ht hr.small (zsU hc hr),yqob]
 by_cases h2:a.aj=2
 ·rw [if_pos (by simpa using h2),if_pos h2]
 have hr:=ha.new h2
 rw [if_neg (by simpa using h2),if_neg h2,zoC ht hr.small (zsU hc hr)];rfl
theorem zId {t:zab} {a:zao} (hS:zdT t) (hg:zah t=true) (ha:zDD t a):zjZ t a=some (zvK t a):=by
 have hc:=ziL hg
 unfold zjZ
 rw [zAx (by omega) hS.name ha,yqob]
 have hl:=zot t a
 exact(zb7 (xs:=t.af) (body:=fun s:Int × List DOp=>zd7 t a s.1 s.2) (fun i (o:List DOp)=>(i,o)) (fun o x=>o++zqD t a x) (fun o=>some o) (fun i o=>o.length≤2+2*i)
  (fun i hi o hI=>by
   have hI:o.length≤2+2*i:=hI
   have hw:=zaW hi (by omega)
   have hk:=zqv t a t.af[i]
   have hm:=List.getElem_mem hi
   refine⟨?_,by show List.length _≤_;rw [yqla];omega⟩
   show zd7 t a i o=_
   unfold zd7
   rw [if_pos (by simpa using hi),zac hi,yqob,zDj hS.name (hS.idx _ hm) (zvz hg hm) ha,yqob,zae (zvr (by omega) (by omega)),hw])
  (fun o _=>by
   show zd7 t a t.af.length o=_
   unfold zd7
   rw [if_neg (by simp)]) (s:=zmk t a) (by omega)).1
theorem zyd {k:Int} {w:zaa} {o:List DOp} (h:o.length≤5000000):zaC k w o=some ((),o++ [⟨k,w.ae,w.az,0⟩]):=by
 unfold zaC
 rw [zae (zvr h (by simp))]
theorem zHO {t:zab} {a:zao} (hS:zdT t) (hg:zah t=true) (ha:zDD t a):zek t a=some (zvK t a):=by
 have hc:=ziL hg
 have hl:=zot t a
 have h7: ∀(i:Int) (x:zbh) (n:Str) (o:List DOp),o.length≤100→zbs i x n o=some (.inl (IntKind.i64.wrap (i+1),o++ztS n x)):=by
  intro i x n o ho
  unfold zbs ztS zdz
  by_cases h1:n= []
  ·rw [if_neg (by simp [h1]),if_neg (by simp [h1]),List.append_nil]
  rw [if_pos (by simpa using h1),yqob]
  by_cases h2:x.al≥2
  ·rw [if_pos (by simpa using h2),if_pos ⟨h1,h2⟩,zyd (by omega)];rfl
  ·rw [if_neg (by simpa using h2),if_neg (fun h=>h2 h.2),List.append_nil]
 have h6: ∀(i:Int) (x:zbh) (k n:Str) (o:List DOp),o.length≤99→zbc i o x k n=some (.inl (IntKind.i64.wrap (i+1),o++(zqG k n x++ztS n x))):=by
  intro i x k n o ho
  unfold zbc zqG zlf
  by_cases h1:k= []
  ·rw [if_neg (by simp [h1]),if_neg (by simp [h1]),h7 _ _ _ _ (by omega)];rfl
  rw [if_pos (by simpa using h1)]
  by_cases h2:k=n
  ·rw [if_neg (by simp [h2]),if_neg (by simp [h2]),h7 _ _ _ _ (by omega)];rfl
  rw [if_pos (by simpa using h2),yqob]
  by_cases h3:x.al≥1
  ·rw [if_pos (by simpa using h3),if_pos ⟨h1,h2,h3⟩,zyd (by omega),yqob,h7 _ _ _ _ (by rw [yqla,yqls];omega),List.append_assoc]
  ·rw [if_neg (by simpa using h3),if_neg (fun h=>h3 h.2.2),h7 _ _ _ _ (by omega)];rfl
 have hloop: ∀o:List DOp,o.length=2→zbr t a o=some (t.af.foldl (fun o x=>o++zqD t a x) o):=by
  intro o ho
  unfold zbr
  exact(zb7 (xs:=t.af) (body:=fun s:Int × List DOp=>zbq t a s.1 s.2) (fun i (o:List DOp)=>(i,o)) (fun o x=>o++zqD t a x) (fun o=>some o) (fun i o=>o.length≤2+2*i)
   (fun i hi o hI=>by
    have hI:o.length≤2+2*i:=hI
    have hw:=zaW hi (by omega)
    have hk:=zqv t a t.af[i]
    have hm:=List.getElem_mem hi
    have hx:=zvz hg hm
    refine⟨?_,by show List.length _≤_;rw [yqla];omega⟩
    show zbq t a i o=_
    unfold zbq
    rw [if_pos (by simpa using hi),zac hi,yqob]
    have e1:(if(a.aj !=1)=true then(za1 t t.af[i].ab a.bg).bind fun v20=>some (Sum.inl v20)else some (Sum.inl ([]:yqS)):Option (yqS ⊕ Option ((Int × List DOp) ⊕ Option (List DOp))))=some (.inl (ztB t a t.af[i])):=by
     unfold ztB
     by_cases h1:a.aj=1
     ·rw [if_neg (by simp [h1]),if_pos h1]
     ·rw [if_pos (by simpa using h1),if_neg h1,zrD hS (hS.idx _ hm) hx (ha.old h1)];rfl
    rw [e1]
    show zeQ t a i o t.af[i] (ztB t a t.af[i])=_
    unfold zeQ
    have e2: ∀k,(if(a.aj !=2)=true then(za1 t t.af[i].ab a.bh).bind fun v19=>zbc i o t.af[i] k v19 else zbc i o t.af[i] k ([]:yqS))=zbc i o t.af[i] k (zq7 t a t.af[i]):=by
     intro k
     unfold zq7
     by_cases h1:a.aj=2
     ·rw [if_neg (by simp [h1]),if_pos h1]
     ·rw [if_pos (by simpa using h1),if_neg h1,zrD hS (hS.idx _ hm) hx (ha.new h1)];rfl
    rw [e2,h6 _ _ _ _ _ (by omega),hw]
    rfl)
   (fun o _=>by
    show zbq t a t.af.length o=_
    unfold zbq
    rw [if_neg (by simp)]) (s:=o) (by omega)).1
 have hn:t.ab.length≤2000000:=hS.name
 unfold zek zvK zmk
 rcases ha.kind with h1|h1|h1
 ·have hr:=ha.new (by omega)
  rw [if_neg (by simp [h1]),if_pos h1]
  show zbb t a [] [] false []=_
  unfold zbb
  rw [if_pos (by simp [h1]),zoh hn hr.small (zsU (by omega) hr),yqob]
  unfold zb9
  rw [if_pos (by simp [h1]),zyd (by simp),yqob,zyd (by simp),yqob,hloop _ (by simp)]
  rfl
 ·have hr:=ha.old (by omega)
  rw [if_pos (by simp [h1]),if_neg (by omega),if_pos h1,zoh hn hr.small (zsU (by omega) hr),yqob,zyd (by simp),yqob]
  show zbb t a (zfv t a.bg).ae (zfv t a.bg).az (zfv t a.bg).bd _=_
  unfold zbb
  rw [if_neg (by simp [h1])]
  unfold zb9
  rw [if_neg (by simp [h1]),if_pos (by simp [h1]),zyd (by simp),yqob,hloop _ (by simp)]
  rfl
 ·have hr:=ha.old (by omega)
  have hr2:=ha.new (by omega)
  have hk:(zfv t a.bg).ae=(zfv t a.bh).ae:=by
   have:=ha.same h1
   unfold zfY at this
   unfold zfv
   rw [List.head?_eq_getElem?,List.head?_eq_getElem?]
   exact congrArg (fun z=>t.ab++ [47]++z) this
  rw [if_pos (by simp [h1]),if_neg (by omega),if_neg (by omega),zoh hn hr.small (zsU (by omega) hr),yqob,zyd (by simp),yqob]
  show zbb t a (zfv t a.bg).ae (zfv t a.bg).az (zfv t a.bg).bd _=_
  unfold zbb
  rw [if_pos (by simp [h1]),zoh hn hr2.small (zsU (by omega) hr2),yqob]
  unfold zb9
  rw [if_neg (by simp [h1]),if_neg (by simp [h1]),if_pos (by simp [h1]),zyd (by simp),yqob,hloop _ (by simp),hk]
  rfl
abbrev wk (w:zaa):Str:=w.ae
theorem zpr {α β:Type} {xs:List α} {body:Int→Option (Int ⊕ Option β)} (p:α→Bool) (hit:α→Option β) (fin:Option β)
  (hs: ∀(i:Nat) (hi:i<xs.length),body i=some (if p xs[i]=true then .inr (hit xs[i])else .inl ((i+1:Nat):Int))) (he:body xs.length=some (.inr fin)):
  zak body 0=match xs.find? p with|some x=>hit x|none=>fin:=by
 have key: ∀n q,q+n=xs.length→zak body (q:Nat)=match(xs.drop q).find? p with|some x=>hit x|none=>fin:=by
  intro n
  induction n with
  |zero=>
   intro q hq
   have:q=xs.length:=by omega
   subst this
   rw [List.drop_length]
   exact zaO he
  |succ n ih=>
   intro q hq
   have hlt:q<xs.length:=by omega
   rw [List.drop_eq_getElem_cons hlt,List.find?_cons]
   have h1:=hs q hlt
   cases hp:p xs[q]with
   |true=>
    rw [hp,if_pos rfl]at h1
    exact zaO h1
   |false=>
    rw [hp,if_neg (by simp)]at h1
    rw [za8 h1]
    exact ih (q+1) (by omega)
 have:=key xs.length 0 (by omega)
 rw [List.drop_zero]at this
 exact this
def zAV (got:List zh6) (k:Str):Str × Bool × Bool:=match got.find? (fun g=>g.ae==k)with|some g=>(g.az,g.fc,true)|none=>([],false,false)
def zd2 (ws:List zaa) (got:List zh6) (k:Str):Str × Bool × Bool:=match ws.find? (fun w=>w.ae==k)with|some w=>(w.az, !w.bd,true)|none=>zAV got k
def zlC (rows:List zaa) (k:Str):zh6:=match rows.find? (fun w=>w.ae==k)with|some w=>⟨k,w.az,true⟩|none=>⟨k, [],false⟩
theorem zsj {ws:List zaa} {got:List zh6} {k:Str} (hw:ws.length≤2000000) (hg:got.length≤2000000):zhC ws got k=some (zd2 ws got k):=by
 have h2:zfP got k=some (zAV got k):=by
  unfold zfP zAV
  rw [zpr (xs:=got) (body:=fun s:Int=>zdb got k s) (fun g=>g.ae==k) (fun g=>some (g.az,g.fc,true)) (some ([],false,false)) (fun i hi=>by
   show zdb got k i=_
   unfold zdb
   rw [if_pos (by simpa using hi),zac hi,yqob,zaW hi (by omega)]
   split<;>rfl) (by
   show zdb got k got.length=_
   unfold zdb
   rw [if_neg (by simp)])]
  cases got.find? (fun g=>g.ae==k)<;>rfl
 unfold zhC zd2
 rw [zpr (xs:=ws) (body:=fun s:Int=>zc4 ws got k s) (fun w=>w.ae==k) (fun w=>some (w.az, !w.bd,true)) (zfP got k) (fun i hi=>by
  show zc4 ws got k i=_
  unfold zc4
  rw [if_pos (by simpa using hi),zac hi,yqob,zaW hi (by omega)]
  split<;>rfl) (by
  show zc4 ws got k ws.length=_
  unfold zc4
  rw [if_neg (by simp)]),h2]
 cases ws.find? (fun w=>w.ae==k)<;>rfl
theorem zGj {rows:List zaa} {k:Str} (hw:rows.length≤2000000):zjW rows k=some (zlC rows k):=by
 unfold zjW zlC
 rw [zpr (xs:=rows) (body:=fun s:Int=>zd5 rows k s) (fun w=>w.ae==k) (fun w=>some ⟨k,w.az,true⟩) (zmo k) (fun i hi=>by
  show zd5 rows k i=_
  unfold zd5
  rw [if_pos (by simpa using hi),zac hi,yqob,zaW hi (by omega)]
  split<;>rfl) (by
  show zd5 rows k rows.length=_
  unfold zd5
  rw [if_neg (by simp)])]
 cases rows.find? (fun w=>w.ae==k)<;>rfl
theorem zo1 {α:Type} (lt:α→Bool) (x:α) (l:List α):zjI lt (x::l)=if lt x=true then zjI lt l+1 else 0:=by
 unfold zjI
 rw [List.takeWhile_cons]
 split<;>rfl
theorem zoJ {x:zaa} {l:List zaa} (h:zij (x::l)):(∀y∈l,bl x.ae y.ae=true)∧zij l:=by
 unfold zij ztA at h
 rw [List.pairwise_cons]at h
 exact h
theorem zCR {l:List zaa} {k:Str} (h: ∀y∈l,bl k y.ae=true):l.find? (fun w=>w.ae==k)=none:=by
 rw [List.find?_eq_none]
 intro y hy
 have:=zmx (h y hy)
 simpa using fun e=>this e.symm
theorem zuA {k:Str}: ∀{l:List zaa},zij l→l.find? (fun w=>w.ae==k)=match l[zjJ l k]? with|some w=>if w.ae=k then some w else none|none=>none
 | [],_=>by simp
 |x::l,h=>by
  obtain⟨h1,h2⟩:=zoJ h
  have ih:=zuA (k:=k) h2
  rw [zjJ,zo1,List.find?_cons]
  by_cases hb:bl x.ae k=true
  ·have hne:(x.ae==k)=false:=by simpa using zmx hb
   rw [if_pos hb,hne,List.getElem?_cons_succ]
   exact ih
  ·rw [if_neg hb,List.getElem?_cons_zero]
   by_cases he:x.ae=k
   ·rw [show(x.ae==k)=true by simpa using he];simp [he]
   ·rw [show(x.ae==k)=false by simpa using he]
    simp only [he,if_false]
    have hk:bl k x.ae=true:=zmW (by simpa using hb) he
    exact zCR fun y hy=>zdZ hk (h1 y hy)
theorem zC4 {l:List zaa} {k:Str} (hl:l.length≤2000000) (hr:zij l): ∃i:Int,(zcw l k=some (i,true)∧ ∃w,zaD l i=some w∧l.find? (fun w=>w.ae==k)=some w)∨(zcw l k=some (i,false)∧l.find? (fun w=>w.ae==k)=none):=by
 refine⟨(zjJ l k:Nat), ?_⟩
 rw [zIo hl hr,zuA hr]
 by_cases hp:zjJ l k<l.length
 ·rw [List.getElem?_eq_getElem hp]
  by_cases hk:(l[zjJ l k]).ae=k
  ·left
   simp only [hk,decide_true,if_true]
   exact⟨trivial,_,zac hp,rfl⟩
  ·right
   simp only [hk,decide_false,if_false]
   exact⟨trivial,trivial⟩
 ·rw [List.getElem?_eq_none (by omega)]
  right
  exact⟨rfl,rfl⟩
theorem zAo {ws:List zaa} {got:List zh6} {k:Str} (hw:ws.length≤2000000) (hg:got.length≤2000000) (hr:zij ws):ziC k ws got=some (zd2 ws got k):=by
 unfold ziC zd2
 obtain⟨i,⟨e,w,e2,e3⟩|⟨e,e3⟩⟩:=zC4 (k:=k) hw hr
 ·rw [e,e3,yqob,if_pos rfl,e2];rfl
 ·rw [e,e3,yqob,if_neg (by simp)]
  unfold zAV
  rw [zpr (xs:=got) (body:=fun s:Int=>zdJ k got s) (fun g=>g.ae==k) (fun g=>some (g.az,g.fc,true)) (some ([],false,false)) (fun i hi=>by
   show zdJ k got i=_
   unfold zdJ
   rw [if_pos (by simpa using hi),zac hi,yqob,zaW hi (by omega)]
   split<;>rfl) (by
   show zdJ k got got.length=_
   unfold zdJ
   rw [if_neg (by simp)])]
  cases got.find? (fun g=>g.ae==k)<;>rfl
theorem zEg {rows:List zaa} {k:Str} (hw:rows.length≤2000000) (hr:zij rows):zkU rows k=some (zlC rows k):=by
 unfold zkU zlC
 obtain⟨i,⟨e,w,e2,e3⟩|⟨e,e3⟩⟩:=zC4 (k:=k) hw hr
 ·rw [e,e3,yqob,if_neg (by simp),e2];rfl
 ·rw [e,e3,yqob,if_pos (by simp)]
def leW (k:Str) (w:zaa):Bool:=bl w.ae k||w.ae==k
def zFv (l:List zaa) (w:zaa) (q:Nat):List zaa:=
 match(if q=0 then none else l[q-1]?)with
 |some y=>if y.ae=w.ae then l.set (q-1) w else l.take q++ [w]++l.drop q
 |none=>l.take q++ [w]++l.drop q
theorem zBv {w:Str} {l:List zaa} (h: ∀y∈l,bl w y.ae=true):zjI (leW w) l=0:=by
 cases l with
 |nil=>rfl
 |cons y l=>
  rw [zo1,if_neg]
  have h1:=h y (by simp)
  have h2:=zrw h1
  have h3:=zmx h1
  unfold leW
  rw [h2]
  simpa using fun e=>h3 e.symm
theorem zzJ {w:zaa}: ∀{l:List zaa},zij l→zFv l w (zjI (leW w.ae) l)=zjc wk w l
 | [],_=>by simp [zFv,zjc,zjI]
 |x::l,h=>by
  obtain⟨h1,h2⟩:=zoJ h
  have ih:=zzJ (w:=w) h2
  rw [zo1,zjc]
  by_cases ha:bl (wk w) (wk x)=true
  ·have hl:leW w.ae x=false:=by
    have h3:=zrw ha
    have h4:=zmx ha
    unfold leW
    rw [h3]
    simpa using fun e=>h4 e.symm
   rw [if_pos ha,hl,if_neg (by simp)]
   simp [zFv]
  rw [if_neg ha]
  by_cases he:wk w=wk x
  ·have hl:leW w.ae x=true:=by unfold leW;rw [show(x.ae==w.ae)=true by simpa using he.symm];simp
   have hz:zjI (leW w.ae) l=0:=zBv fun y hy=>by rw [show w.ae=x.ae from he];exact h1 y hy
   rw [if_pos he,hl,if_pos rfl,hz]
   simp [zFv,show x.ae=w.ae from he.symm]
  ·have hb:bl x.ae w.ae=true:=zmW (by simpa using ha) he
   have hl:leW w.ae x=true:=by unfold leW;rw [hb];rfl
   rw [if_neg he,hl,if_pos rfl,←ih]
   have hle:=zqr (leW w.ae) l
   generalize zjI (leW w.ae) l=q at hle
   unfold zFv
   rw [if_neg (by omega),Nat.add_sub_cancel]
   cases q with
   |zero=>
    simp only [List.getElem?_cons_zero,if_true]
    rw [if_neg (fun e=>he e.symm)]
    simp
   |succ q=>
    rw [if_neg (by omega),Nat.add_sub_cancel,List.getElem?_cons_succ,List.getElem?_eq_getElem (by omega)]
    simp only
    split
    ·simp
    ·simp
theorem zC1 {w:Str}: ∀{l:List zaa},zij l→ ∀(j:Nat) (hj:j<l.length),zjI (leW w) l≤j→leW w l[j]=false
 | [],_,j,hj,_=>by simp at hj
 |x::l,h,j,hj,hq=>by
  obtain⟨h1,h2⟩:=zoJ h
  rw [zo1]at hq
  by_cases hx:leW w x=true
  ·rw [if_pos hx]at hq
   cases j with
   |zero=>omega
   |succ j=>exact zC1 h2 j (by simpa using hj) (by omega)
  ·have hx':leW w x=false:=by simpa using hx
   cases j with
   |zero=>exact hx'
   |succ j=>
    have hm:l[j]'(by simpa using hj)∈l:=List.getElem_mem _
    have h3:=h1 _ hm
    show leW w (l[j]'(by simpa using hj))=false
    unfold leW at hx' ⊢
    simp only [Bool.or_eq_false_iff,beq_eq_false_iff_ne]at hx' ⊢
    have h4:bl w x.ae=true:=zmW hx'.1 hx'.2
    have h5:=zdZ h4 h3
    exact⟨zrw h5,fun e=>zmx h5 e.symm⟩
theorem zCC {i:Nat} (h0:0<i) (h:i≤2000000):IntKind.i64.wrap ((i:Int)-1)=((i-1:Nat):Int):=by rw [zaI (by omega) (by omega)];omega
theorem zy5 {l:List zaa} {w:zaa} (hl:l.length≤2000000) (hr:zij l):zej l w=some (zjc wk w l):=by
 have hk: ∀q:Nat,q≤l.length→zgM l w (q:Int)=some (zFv l w q):=by
  intro q hq
  have r1:0≤(q:Int)∧(q:Int)≤(l.length:Int)∧(l.length:Int)≤(l.length:Int):=by omega
  have hw1:(zg2 l (q:Int) (l.length:Int))=l.drop q:=by rw [show(l.length:Int)=((l.length:Nat):Int)from rfl,zG5,List.take_length]
  have hw2:(zg2 l 0 (q:Int))=l.take q:=zGB l q
  have r2:((([]:List zaa).length:Int)+((l.drop q).length:Int))*40≤140737488355328∧(([]:List zaa).length:Int)+((l.drop q).length:Int)≤140737488355328:=by
   rw [List.length_nil,List.length_drop];omega
  have r3:0≤(0:Int)∧(0:Int)≤(q:Int)∧(q:Int)≤(l.length:Int):=by omega
  have r4:((([]:List zaa).length:Int)+((l.take q).length:Int))*40≤140737488355328∧(([]:List zaa).length:Int)+((l.take q).length:Int)≤140737488355328:=by
   rw [List.length_nil,List.length_take];omega
  have r5:(((l.take q).length:Int)+(([w]:List zaa).length:Int))*40≤140737488355328∧((l.take q).length:Int)+(([w]:List zaa).length:Int)≤140737488355328:=by
   rw [yqls,List.length_take];omega
  have r6:(((l.take q++ [w]).length:Int)+((l.drop q).length:Int))*40≤140737488355328∧((l.take q++ [w]).length:Int)+((l.drop q).length:Int)≤140737488355328:=by
   rw [yqla,yqls,List.length_take,List.length_drop];omega
  have r7:((([]:List zaa).length:Int)+((l).length:Int))*40≤140737488355328∧(([]:List zaa).length:Int)+((l).length:Int)≤140737488355328:=by
   rw [List.length_nil];omega
  unfold zgM zFv
  by_cases h0:q=0
  ·subst h0
   rw [if_neg (by simp),if_pos rfl]
   rw [zae r1,hw1,zae r2,zae r3,hw2,zae r4,zae r5,zae r6]
  ·have hq1:q-1<l.length:=by omega
   rw [if_pos (by simp;omega),if_neg h0,zCC (by omega) (by omega),zac hq1,yqob,List.getElem?_eq_getElem hq1]
   simp only
   by_cases he:(l[q-1]).ae=w.ae
   ·rw [if_pos (by simpa using he),if_pos he,zae r7,yqob]
    rfl
   ·rw [if_neg (by simpa using he),if_neg he]
    rw [zae r1,hw1,zae r2,zae r3,hw2,zae r4,zae r5,zae r6]
 have hle:=zqr (leW w.ae) l
 have key: ∀n j:Nat,j=zjI (leW w.ae) l+n→j≤l.length→zak (fun s:Int=>zdh l w s) (j:Int)=some (zFv l w (zjI (leW w.ae) l)):=by
  intro n
  induction n with
  |zero=>
   intro j hj hjl
   have hj':j=zjI (leW w.ae) l:=by omega
   refine(zaO ?_).trans (hk _ hle)
   show zdh l w (j:Int)=_
   unfold zdh
   by_cases h0:j=0
   ·rw [if_neg (by simp [h0]),hj']
   ·have hq1:j-1<l.length:=by omega
    have ht:=zyV (lt:=leW w.ae) (l:=l) (i:=j-1) (by omega)
    rw [if_pos (by simp;omega),zCC (by omega) (by omega),zac hq1,yqob,if_neg,hj']
    unfold leW at ht
    have ht:(bl l[j-1].ae w.ae||l[j-1].ae==w.ae)=true:=ht
    show¬(!(bl l[j-1].ae w.ae||l[j-1].ae==w.ae))=true
    rw [ht];simp
  |succ n ih=>
   intro j hj hjl
   have hq1:j-1<l.length:=by omega
   have ht:=zC1 (w:=w.ae) hr (j-1) hq1 (by omega)
   have e:zdh l w (j:Int)=some (.inl ((j-1:Nat):Int)):=by
    unfold zdh
    rw [if_pos (by simp;omega),zCC (by omega) (by omega),zac hq1,yqob,if_pos]
    have ht:(bl l[j-1].ae w.ae||l[j-1].ae==w.ae)=false:=ht
    show(!(bl l[j-1].ae w.ae||l[j-1].ae==w.ae))=true
    rw [ht];rfl
   rw [za8 (body:=fun s:Int=>zdh l w s) e]
   exact ih (j-1) (by omega) (by omega)
 unfold zej
 rw [key (l.length-zjI (leW w.ae) l) l.length (by omega) (Nat.le_refl _),zzJ hr]
structure OkO (o:DOp):Prop where
 key:goodKey o.ae=true
 val:zge o.az=true
 nh:o.jm=0
 kind:o.aj=2∨o.aj=3∨o.aj=6∨o.aj=7
 none:o.aj=3∨o.aj=6→o.az= []
theorem zw1 {s:Str} (h:zge s=true):s.length≤24:=by
 unfold zge at h
 simp only [yqba,decide_eq_true_eq]at h
 omega
theorem zr2 {s:Str} (h:goodKey s=true):s.length≤12:=by
 unfold goodKey at h
 simp only [yqba]at h
 have:=zaY.1 h.1
 omega
theorem zxU (s:Str) (h:s.length≤2000000): ∃r,zhN s=some r:=by
 unfold zhN
 rw [zmM,yqob]
 cases hb:inB s.length 1 6 with
 |false=>exact⟨_,rfl⟩
 |true=>
  have h1:=zaY.1 hb
  obtain⟨x,e,_,_⟩:=znc (xs:=s) (i:=0) (by omega) (by omega)
  rw [if_pos rfl,e,yqob]
  split
  ·exact⟨_,rfl⟩
  ·have key: ∀(n q:Nat) (v:Int),q+n=s.length→ ∃r,zak (fun s_:Int × Int=>zbX s s_.1 s_.2) (v,(q:Int))=some r:=by
    intro n
    induction n with
    |zero=>
     intro q v hq
     refine⟨v,zaO ?_⟩
     show zbX s v q=_
     unfold zbX
     rw [if_neg (by simp;omega)]
    |succ n ih=>
     intro q v hq
     have hlt:q<s.length:=by omega
     by_cases hd:((decide (((s[q]).toNat:Int)<48))||(decide (((s[q]).toNat:Int)>57)))=true
     ·refine⟨-1,zaO ?_⟩
      show zbX s v q=_
      unfold zbX
      rw [if_pos (by simpa using hlt),zac hlt,yqob,if_pos hd]
     ·have e:zbX s v q=some (.inl ((IntKind.i64.wrap ((IntKind.i64.wrap ((10:Int)*v))+(IntKind.i64.wrap (IntKind.u8.wrap (((s[q]).toNat:Int)-48))))),((q+1:Nat):Int))):=by
       unfold zbX
       rw [if_pos (by simpa using hlt),zac hlt,yqob,if_neg hd,zaW hlt (by omega)]
      obtain⟨r,hr⟩:=ih (q+1) _ (by omega)
      exact⟨r,(za8 (body:=fun s_:Int × Int=>zbX s s_.1 s_.2) e).trans hr⟩
   exact key s.length 0 0 (by omega)
theorem zEm (s:Str) (h:s.length≤2000000): ∃r,zjo s=some r:=by
 have hj1: ∀(y:UInt8) (v:Str),v.length≤2000000→ ∃r,zhO y v=some r:=by
  intro y v hv
  obtain⟨r,e⟩:=zxU v hv
  unfold zhO
  rw [e,yqob]
  split
  ·exact⟨_,rfl⟩
  ·split<;>exact⟨_,rfl⟩
 unfold zjo
 by_cases h0:(s.length:Int)>0
 ·obtain⟨x,e,_,_⟩:=znc (xs:=s) (i:=0) (by omega) (by omega)
  rw [if_pos (by simpa using h0),e,yqob]
  split
  ·rw [zae (by omega)]
   exact hj1 _ _ (by rw [zI8,List.length_tail];omega)
  ·exact hj1 _ _ h
 ·rw [if_neg (by simpa using h0)]
  unfold zmN
  obtain⟨r,e⟩:=zxU s h
  rw [e,yqob]
  split<;>exact⟨_,rfl⟩
def zB2 (o:DOp) (val:Str) (there:Bool):Bool:=if o.aj=6 then !there else there&&val==o.az
def zkw (got:List zh6):List DOp→List zaa→Int × Str × List zaa
 | [],ws=>(3, [],ws)
 |o::l,ws=>
  if o.aj=2 then zkw got l (zjc wk ⟨o.ae,o.az,false⟩ ws)else
  if o.aj=3 then zkw got l (zjc wk ⟨o.ae, [],true⟩ ws)else
  if(zd2 ws got o.ae).2.2=true then(if zB2 o (zd2 ws got o.ae).1 (zd2 ws got o.ae).2.1=true then zkw got l ws else(2, [], []))
  else(1,o.ae, [])
structure ztU (n:Nat) (ws:List zaa):Prop where
 dd:zij ws
 len:ws.length≤n
 cu: ∀w∈ws,zg4 w=true
theorem zj6 {n:Nat} {ws:List zaa} {w:zaa} (h:ztU n ws) (hw:zg4 w=true):ztU (n+1) (zjc wk w ws):=by
 refine⟨zoR h.dd,Nat.le_trans (zAb _) (by have:=h.len;omega),fun y hy=> ?_⟩
 rcases(zrJ (key:=wk) h.dd y).1 hy with rfl|hy
 ·exact hw
 ·exact h.cu y hy.1
theorem zs3 {o:DOp} (h:OkO o):zg4 ⟨o.ae,o.az,false⟩=true:=by
 unfold zg4 zkX
 simp [h.key,h.val]
theorem zqo {o:DOp} (h:OkO o):zg4 ⟨o.ae, [],true⟩=true:=by
 unfold zg4 zkX
 rw [h.key]
 rfl
theorem zmX {w:zaa} (h:zg4 w=true):w.az.length≤24:=by
 unfold zg4 zkX at h
 simp only [yqba]at h
 exact zw1 h.2.1
theorem zsF {w:zaa} (h:zg4 w=true):w.ae.length≤12:=by
 unfold zg4 at h
 simp only [yqba]at h
 exact zr2 h.1
theorem zus {ws:List zaa} {got:List zh6} {k:Str} (hw: ∀w∈ws,zg4 w=true) (hg: ∀g∈got,g.az.length≤2000):(zd2 ws got k).1.length≤2000:=by
 unfold zd2
 cases e:ws.find? (fun w=>w.ae==k)with
 |some w=>
  have:=zmX (hw w (List.mem_of_find?_eq_some e))
  show w.az.length≤2000
  omega
 |none=>
  unfold zAV
  cases e2:got.find? (fun g=>g.ae==k)with
  |some g=>exact hg g (List.mem_of_find?_eq_some e2)
  |none=>simp
theorem zDM {o:DOp} (h:OkO o) (hk2:o.aj≠2) (hk3:o.aj≠3) {val:Str} {there:Bool} (hv:val.length≤2000):zgl o val there=some (zB2 o val there):=by
 have e: ∃r,zf0 val=some r:=by
  unfold zf0 ziQ
  rw [zae (by omega)]
  exact⟨_,rfl⟩
 obtain⟨r,e⟩:=e
 unfold zgl zB2
 rw [e,yqob]
 rcases h.kind with h1|h1|h1|h1
 ·exact absurd h1 hk2
 ·exact absurd h1 hk3
 ·rw [h1];rfl
 ·rw [h1];rfl
theorem zEO {o:DOp} (h:OkO o) {val:Str} {there:Bool} (hv:val.length≤2000):ziR o val there=some (if o.aj=2∨o.aj=3 then false else !zB2 o val there):=by
 obtain⟨r,e⟩:=zEm val (by omega)
 unfold ziR zB2
 rw [e,yqob]
 rcases h.kind with h1|h1|h1|h1
 ·rw [h1];rfl
 ·rw [h1];rfl
 ·rw [h1];cases there<;>rfl
 ·rw [h1]
  show some (!there||val !=o.az)=some (!(there&&val==o.az))
  cases there<;>simp [bne]
theorem zHj {ops:List DOp} {got:List zh6} (hl:ops.length≤1000) (ho: ∀o∈ops,OkO o) (hg:got.length≤2000) (hv: ∀g∈got,g.az.length≤2000):zk8 ops got=some (zkw got ops []):=by
 have key: ∀(n q:Nat) (ws:List zaa),q+n=ops.length→ztU q ws→zak (fun s:Int × List zaa=>zaL ops got s.1 s.2) ((q:Int),ws)=some (zkw got (ops.drop q) ws):=by
  intro n
  induction n with
  |zero=>
   intro q ws hq hw
   rw [List.drop_eq_nil_of_le (by omega),zkw]
   refine zaO ?_
   show zaL ops got q ws=_
   unfold zaL
   rw [if_neg (by simp;omega)]
  |succ n ih=>
   intro q ws hq hw
   have hlt:q<ops.length:=by omega
   have hok:=ho _ (List.getElem_mem hlt)
   have hwl:=hw.len
   have hwr:=zaW hlt (by omega)
   rw [List.drop_eq_getElem_cons hlt,zkw]
   by_cases h2:(ops[q]).aj=2
   ·rw [if_pos h2]
    have e:zaL ops got q ws=some (.inl (((q+1:Nat):Int),zjc wk ⟨(ops[q]).ae,(ops[q]).az,false⟩ ws)):=by
     unfold zaL
     rw [if_pos (by simpa using hlt),zac hlt,yqob,if_pos (by simpa using h2),zqk (by omega) hw.dd,yqob,hwr]
    rw [za8 (body:=fun s:Int × List zaa=>zaL ops got s.1 s.2) e]
    exact ih (q+1) _ (by omega) (zj6 hw (zs3 hok))
   rw [if_neg h2]
   by_cases h3:(ops[q]).aj=3
   ·rw [if_pos h3]
    have e:zaL ops got q ws=some (.inl (((q+1:Nat):Int),zjc wk ⟨(ops[q]).ae, [],true⟩ ws)):=by
     unfold zaL
     rw [if_pos (by simpa using hlt),zac hlt,yqob,if_neg (by simpa using h2),if_pos (by simpa using h3),zqk (by omega) hw.dd,yqob,hwr]
    rw [za8 (body:=fun s:Int × List zaa=>zaL ops got s.1 s.2) e]
    exact ih (q+1) _ (by omega) (zj6 hw (zqo hok))
   rw [if_neg h3]
   have hsl:=zus (k:=(ops[q]).ae) hw.cu hv
   have hb:zaL ops got q ws=if(zd2 ws got (ops[q]).ae).2.2=true then(if zB2 ops[q] (zd2 ws got (ops[q]).ae).1 (zd2 ws got (ops[q]).ae).2.1=true then some (.inl (((q+1:Nat):Int),ws))else some (.inr (some (2, [], []))))else some (.inr (some (1,(ops[q]).ae, []))):=by
    unfold zaL
    rw [if_pos (by simpa using hlt),zac hlt,yqob,if_neg (by simpa using h2),if_neg (by simpa using h3),zAo (by omega) (by omega) hw.dd,yqob]
    cases hs:(zd2 ws got (ops[q]).ae).2.2 with
    |false=>rw [if_pos (by simp),if_neg (by simp)]
    |true=>
     rw [if_neg (by simp),if_pos rfl,zDM hok h2 h3 hsl,yqob]
     have h4: ¬(ops[q]).aj=4:=by rcases hok.kind with h|h|h|h<;>omega
     cases zB2 ops[q] (zd2 ws got (ops[q]).ae).1 (zd2 ws got (ops[q]).ae).2.1 with
     |false=>rfl
     |true=>rw [if_neg (by simp),if_neg (by simpa using h4),if_pos rfl,hwr]
   by_cases hs:(zd2 ws got (ops[q]).ae).2.2=true
   ·rw [if_pos hs]at hb ⊢
    by_cases hk:zB2 ops[q] (zd2 ws got (ops[q]).ae).1 (zd2 ws got (ops[q]).ae).2.1=true
    ·rw [if_pos hk]at hb ⊢
     rw [za8 (body:=fun s:Int × List zaa=>zaL ops got s.1 s.2) hb]
     exact ih (q+1) _ (by omega) ⟨hw.dd,by omega,hw.cu⟩
    ·rw [if_neg hk]at hb ⊢
     exact zaO hb
   ·rw [if_neg hs]at hb ⊢
    exact zaO hb
 exact key ops.length 0 [] (by omega) ⟨List.Pairwise.nil,Nat.le_refl _,by simp⟩
theorem zGW {ops:List DOp} {got:List zh6} (hl:ops.length≤1000) (ho: ∀o∈ops,OkO o) (hg:got.length≤2000) (hv: ∀g∈got,g.az.length≤2000):zlO ops got=some (zkw got ops []):=by
 have key: ∀(n q:Nat) (ws:List zaa),q+n=ops.length→ztU q ws→zak (fun s:List zaa × Int=>zaV ops got s.1 s.2) (ws,(q:Int))=some (zkw got (ops.drop q) ws):=by
  intro n
  induction n with
  |zero=>
   intro q ws hq hw
   rw [List.drop_eq_nil_of_le (by omega),zkw]
   refine zaO ?_
   show zaV ops got ws q=_
   unfold zaV
   rw [if_neg (by simp;omega)]
  |succ n ih=>
   intro q ws hq hw
   have hlt:q<ops.length:=by omega
   have hok:=ho _ (List.getElem_mem hlt)
   have hwl:=hw.len
   have hwr:=zaW hlt (by omega)
   have hsl:=zus (k:=(ops[q]).ae) hw.cu hv
   have hgv:=zEO hok (val:=(zd2 ws got (ops[q]).ae).1) (there:=(zd2 ws got (ops[q]).ae).2.1) hsl
   rw [List.drop_eq_getElem_cons hlt,zkw]
   by_cases h2:(ops[q]).aj=2
   ·rw [if_pos h2]
    rw [if_pos (.inl h2)]at hgv
    have e:zaV ops got ws q=some (.inl (zjc wk ⟨(ops[q]).ae,(ops[q]).az,false⟩ ws,((q+1:Nat):Int))):=by
     unfold zaV
     rw [if_pos (by simpa using hlt),zac hlt,yqob,zsj (by omega) (by omega),yqob,if_neg (by simp [h2]),hgv,yqob,if_neg (by simp),if_pos (by simpa using h2),zy5 (by omega) hw.dd,yqob,hwr]
    rw [za8 (body:=fun s:List zaa × Int=>zaV ops got s.1 s.2) e]
    exact ih (q+1) _ (by omega) (zj6 hw (zs3 hok))
   rw [if_neg h2]
   by_cases h3:(ops[q]).aj=3
   ·rw [if_pos h3]
    rw [if_pos (.inr h3)]at hgv
    have e:zaV ops got ws q=some (.inl (zjc wk ⟨(ops[q]).ae, [],true⟩ ws,((q+1:Nat):Int))):=by
     unfold zaV
     rw [if_pos (by simpa using hlt),zac hlt,yqob,zsj (by omega) (by omega),yqob,if_neg (by simp [h3]),hgv,yqob,if_neg (by simp),if_neg (by simpa using h2),if_pos (by simpa using h3),zy5 (by omega) hw.dd,yqob,hwr]
    rw [za8 (body:=fun s:List zaa × Int=>zaV ops got s.1 s.2) e]
    exact ih (q+1) _ (by omega) (zj6 hw (zqo hok))
   rw [if_neg h3]
   rw [if_neg (by simp [h2,h3])]at hgv
   have hb:zaV ops got ws q=if(zd2 ws got (ops[q]).ae).2.2=true then(if zB2 ops[q] (zd2 ws got (ops[q]).ae).1 (zd2 ws got (ops[q]).ae).2.1=true then some (.inl (ws,((q+1:Nat):Int)))else some (.inr (some (2, [], []))))else some (.inr (some (1,(ops[q]).ae, []))):=by
    unfold zaV
    rw [if_pos (by simpa using hlt),zac hlt,yqob,zsj (by omega) (by omega),yqob]
    cases hs:(zd2 ws got (ops[q]).ae).2.2 with
    |false=>rw [if_pos (by simp [h2,h3]),if_neg (by simp)]
    |true=>
     rw [if_neg (by simp),if_pos rfl,hgv,yqob]
     have h4: ¬(ops[q]).aj=4:=by rcases hok.kind with h|h|h|h<;>omega
     cases zB2 ops[q] (zd2 ws got (ops[q]).ae).1 (zd2 ws got (ops[q]).ae).2.1 with
     |false=>rfl
     |true=>rw [if_neg (by simp),if_neg (by simpa using h2),if_neg (by simpa using h3),if_neg (by simpa using h4),if_pos rfl,hwr]
   by_cases hs:(zd2 ws got (ops[q]).ae).2.2=true
   ·rw [if_pos hs]at hb ⊢
    by_cases hk:zB2 ops[q] (zd2 ws got (ops[q]).ae).1 (zd2 ws got (ops[q]).ae).2.1=true
    ·rw [if_pos hk]at hb ⊢
     rw [za8 (body:=fun s:List zaa × Int=>zaV ops got s.1 s.2) hb]
     exact ih (q+1) _ (by omega) ⟨hw.dd,by omega,hw.cu⟩
    ·rw [if_neg hk]at hb ⊢
     exact zaO hb
   ·rw [if_neg hs]at hb ⊢
    exact zaO hb
 exact key ops.length 0 [] (by omega) ⟨List.Pairwise.nil,Nat.le_refl _,by simp⟩
theorem znA {got:List zh6}: ∀(l:List DOp) {n:Nat} {ws:List zaa},(∀o∈l,OkO o)→ztU n ws→ztU (n+l.length) (zkw got l ws).2.2∧((zkw got l ws).1=1→ ∃o∈l,o.ae=(zkw got l ws).2.1∧ ∀g∈got,g.ae≠o.ae)
 | [],n,ws,_,hw=>⟨hw,fun h=>by simp [zkw]at h⟩
 |o::l,n,ws,ho,hw=>by
  have hok:=ho o (by simp)
  have hl: ∀o∈l,OkO o:=fun x hx=>ho x (by simp [hx])
  have up: ∀{w:List zaa},ztU (n+l.length) w→ztU (n+(o::l).length) w:=fun h=>⟨h.dd,by have:=h.len;rw [yqlc];omega,h.cu⟩
  rw [zkw]
  split
  ·obtain⟨a,b⟩:=znA (got:=got) l hl (zj6 hw (zs3 hok))
   refine⟨⟨a.dd,by have:=a.len;rw [yqlc];omega,a.cu⟩,fun h=> ?_⟩
   obtain⟨x,hx,h1,h2⟩:=b h
   exact⟨x,by simp [hx],h1,h2⟩
  ·split
   ·obtain⟨a,b⟩:=znA (got:=got) l hl (zj6 hw (zqo hok))
    refine⟨⟨a.dd,by have:=a.len;rw [yqlc];omega,a.cu⟩,fun h=> ?_⟩
    obtain⟨x,hx,h1,h2⟩:=b h
    exact⟨x,by simp [hx],h1,h2⟩
   ·split
    ·split
     ·obtain⟨a,b⟩:=znA (got:=got) l hl hw
      refine⟨up a,fun h=> ?_⟩
      obtain⟨x,hx,h1,h2⟩:=b h
      exact⟨x,by simp [hx],h1,h2⟩
     ·exact⟨⟨List.Pairwise.nil,by simp,by simp⟩,fun h=>by simp at h⟩
    ·rename_i hs
     refine⟨⟨List.Pairwise.nil,by simp,by simp⟩,fun _=>⟨o,by simp,rfl,fun g hg e=> ?_⟩⟩
     apply hs
     unfold zd2
     cases e1:ws.find? (fun w=>w.ae==o.ae)with
     |some w=>rfl
     |none=>
      unfold zAV
      cases e2:got.find? (fun g=>g.ae==o.ae)with
      |some g=>rfl
      |none=>
       rw [List.find?_eq_none]at e2
       exact absurd (by simpa using e) (e2 g hg)
def mu (ops:List DOp) (got:List zh6):Nat:=(ops.filter fun o=>got.all fun g=>g.ae !=o.ae).length
theorem zIg {ops:List DOp} {got:List zh6} {g:zh6} {o:DOp} (ho:o∈ops) (hk:o.ae=g.ae) (hn: ∀x∈got,x.ae≠o.ae):mu ops (got++ [g])<mu ops got:=by
 unfold mu
 have e:(fun o:DOp=>(got++ [g]).all fun x=>x.ae !=o.ae)=fun o=>(got.all fun x=>x.ae !=o.ae)&&(g.ae !=o.ae):=by
  funext x
  rw [List.all_append]
  simp
 have e2:ops.filter (fun o:DOp=>(got++ [g]).all fun x=>x.ae !=o.ae)=(ops.filter fun o=>got.all fun x=>x.ae !=o.ae).filter fun o=>g.ae !=o.ae:=by
  rw [e,List.filter_filter]
  congr 1
  funext x
  rw [Bool.and_comm]
 rw [e2]
 have hm:o∈ops.filter fun o=>got.all fun x=>x.ae !=o.ae:=List.mem_filter.2 ⟨ho,yqal.2 fun x hx=>by simpa using hn x hx⟩
 generalize ops.filter (fun o=>got.all fun x=>x.ae !=o.ae)=l at hm
 have hlt: ∀(l:List DOp),o∈l→(l.filter fun o=>g.ae !=o.ae).length<l.length:=by
  intro l
  induction l with
  |nil=>intro h;simp at h
  |cons y l ih=>
   intro h
   rw [List.filter_cons]
   rcases yqmc.1 h with rfl|h
   ·rw [if_neg (by simp [hk])]
    have:=List.length_filter_le (fun o:DOp=>g.ae !=o.ae) l
    rw [yqlc];omega
   ·have:=ih h
    split
    ·rw [yqlc,yqlc];omega
    ·rw [yqlc];omega
 exact hlt l hm
theorem zIW (ops:List DOp) (got:List zh6):mu ops got≤ops.length:=List.length_filter_le _ _
def zB1 (rows:List zaa) (ops:List DOp):Nat→List zh6→List zaa × Bool
 |0,_=>([],false)
 |n+1,got=>if(zkw got ops []).1=1 then zB1 rows ops n (got++ [zlC rows (zkw got ops []).2.1])else((zkw got ops []).2.2,(zkw got ops []).1==3)
structure ztx (rows:List zaa):Prop where
 dd:zij rows
 len:rows.length≤24
 cu: ∀w∈rows,zg4 w=true
theorem zD1 {rows:List zaa} {k:Str} (h:ztx rows):(zlC rows k).az.length≤2000∧(zlC rows k).ae=k:=by
 unfold zlC
 cases e:rows.find? (fun w=>w.ae==k)with
 |some w=>
  have:=zmX (h.cu w (List.mem_of_find?_eq_some e))
  exact⟨by show w.az.length≤2000;omega,rfl⟩
 |none=>exact⟨by simp,rfl⟩
theorem zzP {rows:List zaa} {ops:List DOp} (hl:ops.length≤8) (ho: ∀o∈ops,OkO o) (hr:ztx rows): ∀(n:Nat) (got:List zh6),mu ops got<n→got.length+n≤1000→(∀g∈got,g.az.length≤2000)→
  (∃g,zak (fun s:List zh6=>zck rows ops s) got=some (g,zB1 rows ops n got))∧(∃g,zak (fun s:List zh6=>zcE rows ops s) got=some (g,zB1 rows ops n got))∧ztU 8 (zB1 rows ops n got).1
 |0,got,hm,_,_=>by omega
 |n+1,got,hm,hg,hv=>by
  have hi:=zHj (got:=got) (by omega) ho (by omega) hv
  have hs:=zGW (got:=got) (by omega) ho (by omega) hv
  obtain⟨ga,gb⟩:=znA (got:=got) ops (n:=0) (ws:= []) ho ⟨List.Pairwise.nil,Nat.le_refl _,by simp⟩
  have hrl:=hr.len
  rw [zB1]
  generalize zkw got ops []=r at hi hs ga gb
  by_cases h1:r.1=1
  ·rw [if_pos h1]
   obtain⟨o,hom,hok,hon⟩:=gb h1
   obtain⟨t1,t2⟩:=zD1 (k:=r.2.1) hr
   have hq:(((got).length:Int)+(([zlC rows r.2.1]:List zh6).length:Int))*40≤140737488355328∧((got).length:Int)+(([zlC rows r.2.1]:List zh6).length:Int)≤140737488355328:=by
    rw [yqls];omega
   have ei:zck rows ops got=some (.inl (got++ [zlC rows r.2.1])):=by
    unfold zck
    rw [hi,yqob,if_neg (by simp [h1]),zEg (by omega) hr.dd,yqob,zae hq]
   have es:zcE rows ops got=some (.inl (got++ [zlC rows r.2.1])):=by
    unfold zcE
    rw [hs,yqob,if_neg (by simp [h1]),zGj (by omega),yqob,zae hq]
   rw [za8 (body:=fun s:List zh6=>zck rows ops s) ei,za8 (body:=fun s:List zh6=>zcE rows ops s) es]
   refine zzP hl ho hr n _ ?_ (by rw [yqla,yqls];omega) fun g hg'=> ?_
   ·have:=zIg (g:=zlC rows r.2.1) hom (hok.trans t2.symm) hon
    omega
   ·rcases yqma.1 hg' with h|h
    ·exact hv g h
    ·rw [List.mem_singleton]at h;subst h;exact t1
  ·rw [if_neg h1]
   refine⟨⟨got,zaO ?_⟩,⟨got,zaO ?_⟩,ga.dd,by have:=ga.len;show r.2.2.length≤8;omega,ga.cu⟩
   ·show zck rows ops got=_
    unfold zck
    rw [hi,yqob,if_pos (by simpa using h1)]
   ·show zcE rows ops got=_
    unfold zcE
    rw [hs,yqob,if_pos (by simpa using h1)]
def zm7 (rows:List zaa) (ops:List DOp):List zaa × Bool:=zB1 rows ops 9 []
theorem zyr {rows:List zaa} {ops:List DOp} (hl:ops.length≤8) (ho: ∀o∈ops,OkO o) (hr:ztx rows):(∃g,zkD rows ops=some (g,zm7 rows ops))∧(∃g,zld rows ops=some (g,zm7 rows ops))∧ztU 8 (zm7 rows ops).1:=by
 have:=zIW ops []
 exact zzP hl ho hr 9 [] (by omega) (by simp) (by simp)
theorem ztq {s:Str} (h:field s=true):s.length≤3:=by
 unfold field at h
 simp only [yqba]at h
 have:=zaY.1 h.1
 omega
theorem zy6 {t:zab} {r:zch} (h:zaq t r=true) (c:Int):(zfY r c).length≤3:=by
 unfold zaq at h
 simp only [yqba]at h
 unfold zfY
 cases e:r.au[c.toNat]? with
 |none=>simp
 |some s=>exact ztq (yqal.1 h.2 s (List.mem_of_getElem? e))
theorem zsc {k:Nat}: ∀{xs:List Str},(∀s∈xs,s.length≤k)→zeR xs≤k*xs.length
 | [],_=>by simp [zeR]
 |s::xs,h=>by
  have h1:=h s (by simp)
  have h2:=zsc (k:=k) (xs:=xs) fun y hy=>h y (by simp [hy])
  simp only [zeR,yqlc,Nat.mul_add,Nat.mul_one]
  omega
theorem zEU {t:zab} {r:zch} (hg:zah t=true) (h:zaq t r=true):(zfv t r).ae.length≤5∧(zfv t r).az.length≤20:=by
 have hn:=zit (zhE hg)
 have hc:=ziL hg
 have hv:=zy6 h 0
 have h':=h
 unfold zaq at h'
 simp only [yqba,beq_iff_eq]at h'
 have hall: ∀s∈r.au,s.length≤3:=fun s hs=>ztq (yqal.1 h'.2 s hs)
 constructor
 ·unfold zfv
  have e:(r.au.head?).getD []=zfY r 0:=by unfold zfY;rw [List.head?_eq_getElem?];rfl
  simp only [e,yqla,yqls]
  omega
 ·have h1:=zwF r.au.tail [44]
  have h2:=zsc (k:=3) (xs:=r.au.tail) fun s hs=>hall s (List.mem_of_mem_tail hs)
  have h3:r.au.tail.length≤3:=by rw [List.length_tail];omega
  rw [yqls]at h1
  show(Lib.join r.au.tail [44]).length≤20
  omega
theorem zDO {t:zab} {n:Str} {c:Int} {r:zch} (hg:zah t=true) (hn:n.length=1) (h:zaq t r=true):(zeq t n c r).length≤11:=by
 have h1:=zit (zhE hg)
 have h2:=zy6 h c
 have h3:=zy6 h 0
 unfold zeq head
 simp only [yqla,yqls]
 omega
theorem zzN {α β:Type} {P:β→Prop} {f:α→List β}: ∀(xs:List α) (a:List β),(∀x∈xs,∀o∈f x,P o)→(∀o∈a,P o)→ ∀o∈xs.foldl (fun a x=>a++f x) a,P o
 | [],a,_,h=>h
 |x::xs,a,hf,h=>zzN xs (a++f x) (fun y hy=>hf y (by simp [hy])) fun o ho=>by
  rcases yqma.1 ho with ho|ho
  ·exact h o ho
  ·exact hf x (by simp) o ho
theorem zxZ {α β:Type} {f:α→List β} (hf: ∀x,(f x).length≤2): ∀(xs:List α) (a:List β),(xs.foldl (fun a x=>a++f x) a).length≤a.length+2*xs.length
 | [],a=>by simp
 |x::xs,a=>by
  have h1:=zxZ hf xs (a++f x)
  have h2:=hf x
  rw [yqla]at h1
  rw [List.foldl_cons,yqlc]
  omega
def zFY (s:Str):Prop:= ∀b∈s,(zgu b||([46,47]:Str).contains b)=true
def zJh (s:Str):Prop:= ∀b∈s,(zgu b||([46,45,44,95]:Str).contains b)=true
theorem zCw {s:Str} (h:field s=true): ∀b∈s,zgu b=true:=by
 unfold field zkt at h
 simp only [yqba]at h
 intro b hb
 have:=yqal.1 h.2 b hb
 simpa using this
theorem zib {s:Str} {k:Int} (h:zbB s k=true): ∀b∈s,zgu b=true:=by
 unfold zbB at h
 simp only [yqba]at h
 intro b hb
 have:=yqal.1 h.1 b hb
 unfold small at this
 unfold zgu
 simp only [Bool.not_eq_true',Bool.or_eq_false_iff,decide_eq_false_iff_not]at this
 simp only [Bool.or_eq_true,yqba,decide_eq_true_eq]
 left
 omega
theorem zkg {s:Str} (h: ∀b∈s,zgu b=true):zFY s:=fun b hb=>by rw [h b hb];rfl
theorem zFY.app {s u:Str} (h:zFY s) (k:zFY u):zFY (s++u):=fun b hb=>by
 rcases yqma.1 hb with hb|hb
 ·exact h b hb
 ·exact k b hb
theorem zJc:zFY [46]:=fun b hb=>by rw [List.mem_singleton]at hb;subst hb;decide
theorem zGp:zFY [47]:=fun b hb=>by rw [List.mem_singleton]at hb;subst hb;decide
theorem zuO {s:Str} (h1:1≤s.length) (h2:s.length≤12) (h:zFY s):goodKey s=true:=by
 unfold goodKey zkt
 rw [zaY.2 ⟨by omega,by omega⟩,yqal.2 h]
 rfl
theorem zAj {s:Str} (h2:s.length≤24) (h:zJh s):zge s=true:=by
 unfold zge zkt
 rw [show decide ((s.length:Int)≤24)=true by simp;omega,yqal.2 h]
 rfl
theorem zER {xs:List Str} (h: ∀x∈xs,∀b∈x,zgu b=true):zJh (Lib.join xs [44]):=by
 cases xs with
 |nil=>intro b hb;simp [Lib.join_nil]at hb
 |cons x r=>
  intro b hb
  rw [Lib.join_cons]at hb
  rcases yqma.1 hb with hb|hb
  ·rw [h x (by simp) b hb];rfl
  ·unfold Lib.joinTail at hb
   obtain⟨l,hl,hbl⟩:=List.mem_flatten.1 hb
   obtain⟨y,hy,rfl⟩:=List.mem_map.1 hl
   rcases yqma.1 hbl with hb|hb
   ·rw [List.mem_singleton]at hb;subst hb;decide
   ·rw [h y (by simp [hy]) b hb];rfl
theorem zqh {t:zab} {r:zch} (h:zaq t r=true): ∀x∈r.au,∀b∈x,zgu b=true:=by
 unfold zaq at h
 simp only [yqba]at h
 exact fun x hx=>zCw (yqal.1 h.2 x hx)
theorem zpR {t:zab} {r:zch} (h:zaq t r=true) (c:Int): ∀b∈zfY r c,zgu b=true:=by
 unfold zfY
 cases e:r.au[c.toNat]? with
 |none=>simp
 |some s=>exact zqh h s (List.mem_of_getElem? e)
theorem zmD {t:zab} {r:zch} (hg:zah t=true) (h:zaq t r=true):goodKey (zfv t r).ae=true∧zge (zfv t r).az=true:=by
 have hl:=zEU hg h
 have e:(zfv t r).ae=t.ab++ [47]++zfY r 0:=by
  unfold zfv zfY
  rw [List.head?_eq_getElem?]
  rfl
 refine⟨zuO ?_ (by omega) ?_,zAj (by omega) ?_⟩
 ·rw [e];simp;omega
 ·rw [e]
  exact((zkg (zib (zhE hg))).app zGp).app (zkg (zpR h 0))
 ·exact zER fun x hx=>zqh h x (List.mem_of_mem_tail hx)
theorem znD {t:zab} {n:Str} {c:Int} {r:zch} (hg:zah t=true) (hn:zbB n 1=true) (h:zaq t r=true):goodKey (zeq t n c r)=true:=by
 have hl:=zDO (c:=c) hg (zit hn) h
 refine zuO ?_ (by omega) ?_
 ·unfold zeq;simp;omega
 ·unfold zeq head
  exact((((((zkg (zib (zhE hg))).app zJc).app (zkg (zib hn))).app zGp).app (zkg (zpR h c))).app zGp).app (zkg (zpR h 0))
theorem zEz {t:zab} {a:zao} (hg:zah t=true) (h:zkB t a=true):(zvK t a).length≤8∧ ∀o∈zvK t a,OkO o:=by
 have ho:a.aj≠1→zaq t a.bg=true:=fun h1=>by
  unfold zkB at h
  rw [if_neg h1]at h
  by_cases h2:a.aj=2
  ·rw [if_pos h2,yqba]at h;exact h.1
  rw [if_neg h2]at h
  by_cases h3:a.aj=3
  ·rw [if_pos h3,yqba]at h;exact h.1
  rw [if_neg h3]at h;cases h
 have hn:a.aj≠2→zaq t a.bh=true:=fun h2=>by
  unfold zkB at h
  by_cases h1:a.aj=1
  ·rw [if_pos h1,yqba]at h;exact h.2
  rw [if_neg h1,if_neg h2]at h
  by_cases h3:a.aj=3
  ·rw [if_pos h3,yqba,yqba]at h;exact h.2.1
  rw [if_neg h3]at h;cases h
 have hc:=ziL hg
 have v0:zge ([]:Str)=true:=by decide
 constructor
 ·have h1:=zxZ (zqv t a) t.af (zmk t a)
  rw [zot]at h1
  unfold zvK
  omega
 ·refine zzN _ _ (fun x hx o hm=> ?_) (fun o hm=> ?_)
  ·have hx1:=(zeB hg hx).1
   unfold zqD zqG ztS at hm
   rcases yqma.1 hm with hm|hm
   ·split at hm
    ·rename_i q
     rw [List.mem_singleton]at hm
     subst hm
     refine⟨?_,v0,rfl,by simp,fun _=>rfl⟩
     show goodKey (ztB t a x)=true
     unfold ztB at q ⊢
     by_cases h1:a.aj=1
     ·rw [if_pos h1]at q;exact absurd rfl q.1
     ·rw [if_neg h1];exact znD hg hx1 (ho h1)
    ·simp at hm
   ·split at hm
    ·rename_i q
     rw [List.mem_singleton]at hm
     subst hm
     refine⟨?_,v0,rfl,by simp,fun _=>rfl⟩
     show goodKey (zq7 t a x)=true
     unfold zq7 at q ⊢
     by_cases h1:a.aj=2
     ·rw [if_pos h1]at q;exact absurd rfl q.1
     ·rw [if_neg h1];exact znD hg hx1 (hn h1)
    ·simp at hm
  ·unfold zmk at hm
   split at hm
   ·rename_i q
    have w:=zmD hg (hn (by omega))
    simp only [yqmc,List.not_mem_nil,or_false]at hm
    rcases hm with rfl|rfl
    ·exact⟨w.1,v0,rfl,by simp,fun _=>rfl⟩
    ·exact⟨w.1,w.2,rfl,by simp,fun k=>by simp at k⟩
   ·rename_i q1
    have w1:=zmD hg (ho q1)
    split at hm
    ·simp only [yqmc,List.not_mem_nil,or_false]at hm
     rcases hm with rfl|rfl
     ·exact⟨w1.1,w1.2,rfl,by simp,fun k=>by simp at k⟩
     ·exact⟨w1.1,v0,rfl,by simp,fun _=>rfl⟩
    ·rename_i q2
     have w2:=zmD hg (hn q2)
     simp only [yqmc,List.not_mem_nil,or_false]at hm
     rcases hm with rfl|rfl
     ·exact⟨w1.1,w1.2,rfl,by simp,fun k=>by simp at k⟩
     ·exact⟨w1.1,w2.2,rfl,by simp,fun k=>by simp at k⟩
theorem zdm {l:List zaa} (h:zaP l=true):ztx l∧ ∀w∈l,w.bd=false:=by
 unfold zaP at h
 rw [yqba]at h
 have hr:=zr1 h.1
 have h1:=h.1
 unfold zeF at h1
 simp only [yqba,decide_eq_true_eq]at h1
 exact⟨⟨hr,by omega,yqal.1 h1.2.1⟩,fun w hw=>by simpa using yqal.1 h.2 w hw⟩
theorem zsD {l:List zaa} (hr:zij l) (hg: ∀w∈l,zg4 w=true) (hn: ∀w∈l,w.bd=false):zaP l=decide ((l.length:Int)≤24):=by
 have h1:zn8 (l.map (·.ae))=true:=by
  rw [zoz,znw]
  exact(zpe (r:=fun a b:zaa=>bl a.ae b.ae) fun a b c p q=>zdZ p q).2 hr
 unfold zaP zeF
 rw [h1,yqal.2 hg,show(l.all fun w=> !w.bd)=true from yqal.2 fun w hw=>by rw [hn w hw];rfl]
 simp
theorem zj7 {l:List zaa} (hl:l.length≤2000000) (hg: ∀w∈l,zg4 w=true):zr6 l:=
 ⟨hl,fun w hw=>⟨by have:=zsF (hg w hw);omega,by have:=zmX (hg w hw);omega⟩⟩
def zeI (rows ws:List zaa):List zaa:=(ws.foldl (fun o w=>zjc wk w o) rows).filter fun w=> !w.bd
theorem zDA: ∀(ws:List zaa) {n:Nat} {rows:List zaa},ztU n rows→(∀w∈ws,zg4 w=true)→ztU (n+ws.length) (ws.foldl (fun o w=>zjc wk w o) rows)
 | [],n,rows,h,_=>h
 |w::ws,n,rows,h,hw=>by
  have:=zDA ws (zj6 h (hw w (by simp))) fun y hy=>hw y (by simp [hy])
  exact⟨this.dd,by have:=this.len;rw [yqlc];rw [List.foldl_cons];omega,this.cu⟩
theorem zxy {rows ws:List zaa} (hr:ztx rows) (hw:ztU 8 ws):zij (zeI rows ws)∧(zeI rows ws).length≤32∧(∀w∈zeI rows ws,zg4 w=true)∧ ∀w∈zeI rows ws,w.bd=false:=by
 have h:=zDA ws (n:=24) (rows:=rows) ⟨hr.dd,hr.len,hr.cu⟩ hw.cu
 have hl:=hw.len
 unfold zeI
 refine⟨ztA.filter h.dd _,Nat.le_trans (List.length_filter_le _ _) (by have:=h.len;omega),fun w hm=>h.cu w (List.mem_filter.1 hm).1,fun w hm=>by simpa using(List.mem_filter.1 hm).2⟩
theorem zAm {rows ws:List zaa} (hr:ztx rows) (hw:ztU 8 ws):zi1 rows ws=some (if(zeI rows ws).length>24 then([],false)else(zeI rows ws,true)):=by
 have hrl:=hr.len
 have hwl:=hw.len
 have hc:zap rows=some rows:=zkW (by omega) (by omega)
 unfold zi1
 rw [hc,yqob]
 have h1:=zb7 (xs:=ws) (body:=fun s:Int × List zaa=>zdK ws s.1 s.2) (fun i (o:List zaa)=>(i,o)) (fun o w=>zjc wk w o) (fun o=>ziw o) (fun i o=>ztU (24+i) o)
  (fun i hi o hI=>by
   have hI:ztU (24+i) o:=hI
   have hol:=hI.len
   refine⟨?_,zj6 hI (hw.cu _ (List.getElem_mem hi))⟩
   show zdK ws i o=_
   unfold zdK
   rw [if_pos (by simpa using hi),zac hi,yqob,zqk (by omega) hI.dd,yqob,zaW hi (by omega)])
  (fun o hI=>by
   show zdK ws ws.length o=_
   unfold zdK
   rw [if_neg (by simp)]) (s:=rows) ⟨hr.dd,hr.len,hr.cu⟩
 rw [h1.1]
 have hK:ztU (24+ws.length) (ws.foldl (fun o w=>zjc wk w o) rows):=h1.2
 have hkl:=hK.len
 unfold ziw zcu
 rw [zae (by omega),zns (p:=fun y0_=>zjs y0_) (fun w:zaa=>w.bd) (fun w _=>rfl),yqob]
 show(if decide (((zeI rows ws).length:Int)>24)=true then _ else _)=_
 by_cases hq:(zeI rows ws).length>24
 ·rw [if_pos (decide_eq_true (by omega)),if_pos hq]
 ·rw [if_neg (by rw [decide_eq_true_eq];omega),if_neg hq];rfl
theorem zA4 {rows ws:List zaa} (hr:ztx rows) (hw:ztU 8 ws):zgQ rows ws=some (zeI rows ws):=by
 have hrl:=hr.len
 have hwl:=hw.len
 have hq:((([]:List zaa).length:Int)+((rows).length:Int))*40≤140737488355328∧(([]:List zaa).length:Int)+((rows).length:Int)≤140737488355328:=by
  rw [List.length_nil];omega
 unfold zgQ
 rw [zae hq]
 have h1:=zb7 (xs:=ws) (body:=fun s:Int × List zaa=>zcM ws s.1 s.2) (fun i (o:List zaa)=>(i,o)) (fun o w=>zjc wk w o) (fun o=>zgZ o) (fun i o=>ztU (24+i) o)
  (fun i hi o hI=>by
   have hI:ztU (24+i) o:=hI
   have hol:=hI.len
   refine⟨?_,zj6 hI (hw.cu _ (List.getElem_mem hi))⟩
   show zcM ws i o=_
   unfold zcM
   rw [if_pos (by simpa using hi),zac hi,yqob,zy5 (by omega) hI.dd,yqob,zaW hi (by omega)])
  (fun o hI=>by
   show zcM ws ws.length o=_
   unfold zcM
   rw [if_neg (by simp)]) (s:=rows) ⟨hr.dd,hr.len,hr.cu⟩
 rw [h1.1]
 have hK:ztU (24+ws.length) (ws.foldl (fun o w=>zjc wk w o) rows):=h1.2
 have hkl:=hK.len
 unfold zeI
 generalize ws.foldl (fun o w=>zjc wk w o) rows=l at hkl
 unfold zgZ
 have h2:=zb7 (xs:=l) (body:=fun s:List zaa × Int=>zcD l s.1 s.2) (fun i (o:List zaa)=>(o,i)) (fun o w=>if(!w.bd)=true then o++ [id w]else o) (fun o=>some o) (fun i o=>o.length≤i)
  (fun i hi o hI=>by
   have hI:o.length≤i:=hI
   have hr:(((o).length:Int)+(([l[i]]:List zaa).length:Int))*40≤140737488355328∧((o).length:Int)+(([l[i]]:List zaa).length:Int)≤140737488355328:=by
    rw [yqls];omega
   refine⟨?_,by show List.length _≤_;split;rw [yqla,yqls];omega;omega⟩
   show zcD l o i=_
   unfold zcD
   rw [if_pos (by simpa using hi),zac hi,yqob,zaW hi (by omega)]
   cases(!(l[i]).bd)with
   |false=>rfl
   |true=>rw [if_pos rfl,zae hr];rfl)
  (fun o _=>by
   show zcD l o l.length=_
   unfold zcD
   rw [if_neg (by simp)]) (s:= []) (Nat.le_refl _)
 refine h2.1.trans ?_
 rw [zkf (fun w:zaa=> !w.bd) id l []]
 simp
def zei (st:List zaa) (ops:List DOp):List zaa × Bool:=if(zm7 st ops).2=true∧(zeI st (zm7 st ops).1).length≤24 then(zeI st (zm7 st ops).1,true)else(st,false)
theorem zx7 {st:List zaa} {ops:List DOp} (hl:ops.length≤8) (ho: ∀o∈ops,OkO o) (hg:zaP st=true):zhK st ops=some (zei st ops):=by
 obtain⟨hr,_⟩:=zdm hg
 obtain⟨⟨g,e⟩,_,hw⟩:=zyr hl ho hr
 have hrl:=hr.len
 have hq:((([]:List zaa).length:Int)+((st).length:Int))*40≤140737488355328∧(([]:List zaa).length:Int)+((st).length:Int)≤140737488355328:=by
  rw [List.length_nil];omega
 unfold zhK zei
 rw [e,yqob,zAm hr hw,yqob]
 cases h1:(zm7 st ops).2 with
 |false=>rw [if_pos (by simp),zae hq,if_neg (by simp)]
 |true=>
  by_cases h2:(zeI st (zm7 st ops).1).length>24
  ·rw [if_pos h2,if_pos (by simp),zae hq,if_neg (by omega)]
  ·rw [if_neg h2,if_neg (by simp),if_pos ⟨rfl,by omega⟩]
theorem zA2 {ops:List DOp} (hl:ops.length≤8) (ho: ∀o∈ops,OkO o):zj3 ops=some true:=by
 have h1: ∀o:DOp,OkO o→zlS o=some true:=by
  intro o h
  have hk:=zr2 h.key
  have hv:=zw1 h.val
  unfold zlS zla
  rw [zBy (by omega),yqob,h.key,if_neg (by simp)]
  rcases h.kind with k|k|k|k
  ·rw [k];simp [zDH (s:=o.az) (by omega),h.val,h.nh]
  ·have:=h.none (.inl k);rw [k];simp [this,h.nh]
  ·have:=h.none (.inr k);rw [k];simp [this,h.nh]
  ·rw [k];simp [zDH (s:=o.az) (by omega),h.val,h.nh]
 unfold zj3
 rw [zjL (xs:=ops) (body:=fun s:Int=>zd8 ops s) (fun _=>true) false (zjz ops) (fun i hi=>by
  show zd8 ops i=_
  unfold zd8
  rw [if_pos (by simpa using hi),zac hi,yqob,h1 _ (ho _ (List.getElem_mem hi)),yqob,if_neg (by simp),zaW hi (by omega),if_pos rfl]) (by
  show zd8 ops ops.length=_
  unfold zd8
  rw [if_neg (by simp)]),if_pos (yqal.2 fun _ _=>rfl)]
 unfold zjz
 simp;omega
theorem zG7 {st:List zaa} {ops:List DOp} (hl:ops.length≤8) (ho: ∀o∈ops,OkO o) (hg:zaP st=true):zf4 st ops=some (zei st ops):=by
 obtain⟨hr,_⟩:=zdm hg
 obtain⟨_,⟨g,e⟩,hw⟩:=zyr hl ho hr
 have hrl:=hr.len
 have hq:((([]:List zaa).length:Int)+((st).length:Int))*40≤140737488355328∧(([]:List zaa).length:Int)+((st).length:Int)≤140737488355328:=by
  rw [List.length_nil];omega
 have hqb: ∀b:Bool,((([]:List Bool).length:Int)+(([b]:List Bool).length:Int))*1≤140737488355328∧(([]:List Bool).length:Int)+(([b]:List Bool).length:Int)≤140737488355328:=by
  intro b;rw [List.length_nil,yqls];omega
 obtain⟨p1,p2,p3,p4⟩:=zxy hr hw
 have hv7:zdr (zeI st (zm7 st ops).1)=some (decide (((zeI st (zm7 st ops).1).length:Int)≤24)):=by
  rw [zsS (zj7 (by omega) p3),zsD p1 p3 p4]
 have hw1:IntKind.i64.wrap ((0:Int)+1)=1:=by decide
 have key:zgP st [ops]=some ((zei st ops).1, [(zei st ops).2],true):=by
  unfold zgP
  rw [zsS (zj7 (by omega) hr.cu),yqob,hg,if_neg (by simp)]
  have b0:zb1 st [ops] 0=some (.inl 1):=by
   unfold zb1
   rw [if_pos (by simp),show zaD [ops] 0=some ops from rfl,yqob,zA2 hl ho,yqob,if_neg (by simp),hw1]
  have b1:zb1 st [ops] 1=some (.inr (zg9 st [ops])):=by
   unfold zb1
   rw [if_neg (by simp)]
  rw [za8 (body:=fun s:Int=>zb1 st [ops] s) b0,zaO (body:=fun s:Int=>zb1 st [ops] s) b1]
  unfold zg9
  rw [zae hq]
  have c0:zb4 [ops] [] 0 st=some (.inl ([(zei st ops).2],1,(zei st ops).1)):=by
   unfold zb4 zei
   rw [if_pos (by simp),show zaD [ops] 0=some ops from rfl,yqob,e,yqob,zA4 hr hw,yqob]
   cases h1:(zm7 st ops).2 with
   |false=>rw [if_neg (by simp),zae (hqb _),if_neg (by simp),hw1];rfl
   |true=>
    rw [if_pos rfl,hv7,yqob]
    by_cases h2:(zeI st (zm7 st ops).1).length≤24
    ·have h3:decide (((zeI st (zm7 st ops).1).length:Int)≤24)=true:=by simp;omega
     rw [h3,if_pos rfl,zae (hqb _),if_pos ⟨rfl,h2⟩,hw1];rfl
    ·have h3:decide (((zeI st (zm7 st ops).1).length:Int)≤24)=false:=by simp;omega
     rw [h3,if_neg (by simp),zae (hqb _),if_neg (by omega),hw1];rfl
  have c1: ∀(bs:List Bool) (l:List zaa),zb4 [ops] bs 1 l=some (.inr (some (l,bs,true))):=by
   intro bs l
   unfold zb4
   rw [if_neg (by simp)]
  rw [za8 (body:=fun s:List Bool × Int × List zaa=>zb4 [ops] s.1 s.2.1 s.2.2) c0,zaO (body:=fun s:List Bool × Int × List zaa=>zb4 [ops] s.1 s.2.1 s.2.2) (c1 _ _)]
 unfold zf4
 rw [key,yqob,if_pos (by simp)]
 rfl
theorem zmj {st:List zaa} {ops:List DOp} (hl:ops.length≤8) (ho: ∀o∈ops,OkO o) (hg:zaP st=true):zaP (zei st ops).1=true:=by
 obtain⟨hr,_⟩:=zdm hg
 obtain⟨_,_,hw⟩:=zyr hl ho hr
 obtain⟨p1,p2,p3,p4⟩:=zxy hr hw
 unfold zei
 split
 ·rename_i h
  show zaP (zeI st (zm7 st ops).1)=true
  rw [zsD p1 p3 p4]
  have:=h.2
  simp;omega
 ·exact hg
theorem zqg {α:Type}: ∀(xs a:List α),xs.foldl (fun o x=>o++ [x]) a=a++xs
 | [],a=>by simp
 |x::xs,a=>by rw [List.foldl_cons,zqg xs (a++ [x])];simp
theorem zFy {o p:List zab} (h:o.length≤2000001) (hn:p.length≤5):((o.length:Int)+(p.length:Int))*64≤140737488355328∧(o.length:Int)+(p.length:Int)≤140737488355328:=by omega
theorem zzE {s:zai} (hS:zjF s):zfk s=some s:=by
 have h1:=hS.at_
 have h2:=hS.store.1
 have h3:=hS.ways
 have c1:zev s.bm=some s.bm:=zkW (by omega) (by omega)
 have c2:zap s.ay=some s.ay:=zkW (by omega) (by omega)
 unfold zfk
 rw [c1,c2,yqob,yqob]
 have h:=zb7 (xs:=s.ak) (body:=fun q:Int × List zab=>zcN s s.bm s.ay q.1 q.2) (fun i (o:List zab)=>(i,o)) (fun o t=>o++ [t]) (fun o=>some ⟨s.ab,o,s.bm,s.ay⟩) (fun i o=>o.length=i)
  (fun i hi o hI=>by
   have hI:o.length=i:=hI
   refine⟨?_,by show List.length _=_;rw [yqla,yqls];omega⟩
   show zcN s s.bm s.ay i o=_
   unfold zcN
   rw [if_pos (by simpa using hi),zac hi,yqob,zyP (hS.way _ (List.getElem_mem hi)),yqob,zae (zFy (by omega) (by simp)),zaW hi (by omega)])
  (fun o _=>by
   show zcN s s.bm s.ay s.ak.length o=_
   unfold zcN
   rw [if_neg (by simp)]) (s:= []) rfl
 rw [zqg]at h
 exact h.1
theorem zDF {s:zai} (hS:zjF s):zhP s=some s:=by
 have h1:=hS.at_
 have h2:=hS.store.1
 have h3:=hS.ways
 have c1:zk0 s.bm=some s.bm:=by
  unfold zk0
  rw [zae (by rw [List.length_nil];omega)]
 have hq:((([]:List zaa).length:Int)+((s.ay).length:Int))*40≤140737488355328∧(([]:List zaa).length:Int)+((s.ay).length:Int)≤140737488355328:=by
  rw [List.length_nil];omega
 unfold zhP
 rw [c1,yqob,zae hq]
 have h:=zb7 (xs:=s.ak) (body:=fun q:Int × List zab=>zea s s.bm q.1 q.2) (fun i (o:List zab)=>(i,o)) (fun o t=>o++ [t]) (fun o=>some ⟨s.ab,o,s.bm,s.ay⟩) (fun i o=>o.length=i)
  (fun i hi o hI=>by
   have hI:o.length=i:=hI
   refine⟨?_,by show List.length _=_;rw [yqla,yqls];omega⟩
   show zea s s.bm i o=_
   unfold zea
   rw [if_pos (by simpa using hi),zac hi,yqob,zDy (hS.way _ (List.getElem_mem hi)),yqob,zae (zFy (by omega) (by simp)),zaW hi (by omega)])
  (fun o _=>by
   show zea s s.bm s.ak.length o=_
   unfold zea
   rw [if_neg (by simp)]) (s:= []) rfl
 rw [zqg]at h
 exact h.1
def zHr (a:zao):Bool:=((a.aj==0)&&((a.bg.au.length:Int)==0))&&((a.bh.au.length:Int)==0)
structure zFW (s:zai) (a:zax):Prop where
 n8:0≤a.ax∧a.ax≤(s.bm.length:Int)-1
 step:a.bb=0∨a.bb=1∨a.bb= -1
 act:a.bb=0→ ∃y t,zaD s.bm a.ax=some y∧zaD s.ak y=some t∧t∈s.ak∧zkB t a.aw=true
theorem zp6 {t:zab} {n:Str} (h:zoc t n=true):zah t=true:=by
 unfold zoc at h
 simp only [yqba]at h
 exact h.1
theorem zwO {s:zai} (hg:zkv s) {i:Int} (h:0≤i∧i≤(s.bm.length:Int)-1): ∃y t,zaD s.bm i=some y∧zaD s.ak y=some t∧t∈s.ak∧0≤y∧y≤(s.ak.length:Int)-1:=by
 obtain⟨y,e1,hy,_⟩:=znc (xs:=s.bm) h.1 (by omega)
 have hb:=hg.2.2.2.2.2.1 y hy
 obtain⟨t,e2,ht,_⟩:=znc (xs:=s.ak) hb.1 (by omega)
 exact⟨y,t,e1,e2,ht,hb.1,hb.2⟩
def zlK (s:zai) (t:zab) (a:zax):Bool:=
 inB a.ax 0 ((s.bm.length:Int)-1)&&(if a.bb=0 then zkB t a.aw else if a.bb=1∨a.bb= -1 then zHr a.aw else false)
def zkk (s:zai) (i:Int):zab:=(zaD s.ak ((zaD s.bm i).getD 0)).getD noT
theorem zAh {s:zai} {a:zax} (hg:zkv s) (hA:zkP a.aw):ziV s a=some (zlK s (zkk s a.ax) a):=by
 have h3:=zaY.1 hg.2.2.2.2.1
 have w:IntKind.i64.wrap ((s.bm.length:Int)-1)=(s.bm.length:Int)-1:=zaI (by omega) (by omega)
 unfold ziV zlK
 rw [w,zmM,yqob]
 cases hv:inB a.ax 0 ((s.bm.length:Int)-1)with
 |false=>rfl
 |true=>
  obtain⟨y,t,e1,e2,ht,_,_⟩:=zwO hg (zaY.1 hv)
  have hc:=ziL (zp6 (hg.2.2.1 t ht))
  have et:zkk s a.ax=t:=by unfold zkk;rw [e1,Option.getD_some,e2];rfl
  rw [et,if_neg (by simp),Bool.true_and]
  by_cases h0:a.bb=0
  ·rw [if_neg (by simp [h0]),if_pos (by simpa using h0),if_pos h0,e1,yqob,e2,yqob,zuP (by omega) hA];rfl
  ·rw [if_neg h0]
   by_cases h1:a.bb=1∨a.bb= -1
   ·rw [if_pos (by simpa using h1),if_pos h1];rfl
   ·rw [if_neg (by simpa using h1),if_neg h1,if_neg (by simpa using h0)]
theorem zAY {s:zai} {a:zax} (hg:zkv s) (hA:zkP a.aw):zcS s a=some (zlK s (zkk s a.ax) a):=by
 have h3:=zaY.1 hg.2.2.2.2.1
 have w:IntKind.i64.wrap ((s.bm.length:Int)-1)=(s.bm.length:Int)-1:=zaI (by omega) (by omega)
 unfold zcS zlK
 rw [w,ziK,yqob]
 cases hv:inB a.ax 0 ((s.bm.length:Int)-1)with
 |false=>rfl
 |true=>
  obtain⟨y,t,e1,e2,ht,_,_⟩:=zwO hg (zaY.1 hv)
  have hc:=ziL (zp6 (hg.2.2.1 t ht))
  have et:zkk s a.ax=t:=by unfold zkk;rw [e1,Option.getD_some,e2];rfl
  have ht2:zam s a.ax=some t:=by
   unfold zam
   rw [e1,yqob,e2];rfl
  rw [et,if_neg (by simp),Bool.true_and]
  by_cases h0:a.bb=0
  ·rw [if_pos (by simpa using h0),if_pos h0,ht2,yqob,zAi (by omega) hA];rfl
  ·rw [if_neg (by simpa using h0),if_neg h0]
   by_cases h1:a.bb=1
   ·rw [if_pos (by simpa using h1),if_pos (.inl h1)];rfl
   ·rw [if_neg (by simpa using h1)]
    by_cases h2:a.bb= -1
    ·rw [if_pos (by simpa using h2),if_pos (.inr h2)];rfl
    ·rw [if_neg (by simpa using h2),if_neg (by simp [h1,h2])]
theorem zH0 {s:zai} {a:zax} (hg:zkv s) (h:zlK s (zkk s a.ax) a=true):zFW s a:=by
 unfold zlK at h
 rw [yqba]at h
 have hv:=zaY.1 h.1
 obtain⟨y,t,e1,e2,ht,_,_⟩:=zwO hg hv
 have et:zkk s a.ax=t:=by unfold zkk;rw [e1,Option.getD_some,e2];rfl
 have h2:=h.2
 rw [et]at h2
 by_cases h0:a.bb=0
 ·rw [if_pos h0]at h2
  exact⟨hv, .inl h0,fun _=>⟨y,t,e1,e2,ht,h2⟩⟩
 ·rw [if_neg h0]at h2
  by_cases h1:a.bb=1∨a.bb= -1
  ·exact⟨hv, .inr h1,fun h=>absurd h h0⟩
  ·rw [if_neg h1]at h2;cases h2
structure zFd (s r:zai):Prop where
 cu:zkv r
 small:zjF r
 name:r.ab=s.ab
 ways:r.ak=s.ak
 at_:r.bm.length=s.bm.length
theorem zxY {s:zai} {a:zax} (hS:zjF s) (hg:zkv s) (hA:zkP a.aw) (hact:zFW s a): ∃r:zai × Bool,zep s a=some r∧zcF s a=some r∧zFd s r.1:=by
 obtain⟨y,t,e1,e2,ht,hy0,hy1⟩:=zwO hg hact.n8
 have h1:=hg.1
 have h4:=hg.2.1
 have w:IntKind.i64.wrap ((s.ak.length:Int)-1)=(s.ak.length:Int)-1:=zaI (by omega) (by omega)
 unfold zep zcF
 rw [zDF hS,zzE hS,yqob,yqob,w]
 by_cases h0:a.bb=0
 ·obtain⟨y',t',q1,q2,q3,hga⟩:=hact.act h0
  rw [e1]at q1
  cases q1
  rw [e2]at q2
  cases q2
  have hI:=hg.2.2.1 t ht
  have hgt:=zp6 hI
  have hc:=ziL hgt
  have hSt:=hS.way t ht
  have hai:=zHW hA hga
  have hR:=hg.2.2.2.2.2.2
  obtain⟨ol,oo⟩:=zEz hgt hga
  have ht2:zam s a.ax=some t:=by
   unfold zam
   rw [e1,yqob,e2];rfl
  have hD:zkN t s.ay a.aw=some ((zei s.ay (zvK t a.aw)).1,(zei s.ay (zvK t a.aw)).2,true):=by
   have hGA:zi5 t a.aw=some true:=by
    unfold zi5
    rw [zo3 hSt,yqob,hgt,if_pos rfl,zuP (by omega) hA,hga];rfl
   unfold zkN
   rw [hGA,yqob,if_pos rfl,zsS hS.store,yqob,hR,if_neg (by simp),zId hSt hgt hai,yqob,zG7 ol oo hR];rfl
  have hgo:=zmj ol oo hR
  rw [if_neg (by simp [h0]),if_neg (by simp [h0]),e1,yqob,e2,yqob,hD,ht2,yqob,yqob,zHO hSt hgt hai,yqob,zx7 ol oo hR,yqob]
  refine⟨_,rfl,rfl,⟨⟨hg.1,hg.2.1,hg.2.2.1,hg.2.2.2.1,hg.2.2.2.2.1,hg.2.2.2.2.2.1,hgo⟩,⟨hS.name,hS.ways,hS.way,hS.at_, ?_⟩,rfl,rfl,rfl⟩⟩
  have hr:=(zdm hgo).1
  have hrl:=hr.len
  exact zj7 (by show(zei s.ay (zvK t a.aw)).1.length≤2000000;omega) hr.cu
 ·have hst:a.bb=1∨a.bb= -1:=by rcases hact.step with h|h|h;exact absurd h h0;exact .inl h;exact .inr h
  have w2:IntKind.i64.wrap (y+a.bb)=y+a.bb:=zaI (by omega) (by omega)
  rw [if_pos (by simpa using h0),if_pos (by simpa using h0)]
  simp only [e1,yqob,w2,zmM,ziK]
  cases hv:inB (y+a.bb) 0 ((s.ak.length:Int)-1)with
  |false=>exact⟨_,rfl,rfl,⟨hg,hS,rfl,rfl,rfl⟩⟩
  |true=>
   have hv2:=zaY.1 hv
   refine⟨_,rfl,rfl,⟨⟨hg.1,hg.2.1,hg.2.2.1,hg.2.2.2.1, ?_,fun z hz=> ?_,hg.2.2.2.2.2.2⟩,⟨hS.name,hS.ways,hS.way, ?_,hS.store⟩,rfl,rfl,List.length_set⟩⟩
   ·show inB (((s.bm.set (a.ax).toNat (y+a.bb)).length:Nat):Int) 1 3=true
    rw [List.length_set];exact hg.2.2.2.2.1
   ·rcases List.mem_or_eq_of_mem_set hz with hz|rfl
    ·exact hg.2.2.2.2.2.1 z hz
    ·exact hv2
   ·show(s.bm.set (a.ax).toNat (y+a.bb)).length≤2000000
    rw [List.length_set];exact hS.at_
def zJe:zai:=⟨[], [], [], []⟩
theorem zCJ {α:Type} {f:α→Nat} {n:Nat}: ∀{l:List α},(∀x∈l,f x≤n)→(l.map f).sum≤n*l.length
 | [],_=>by simp
 |x::l,h=>by
  have h1:=h x (by simp)
  have h2:=zCJ (f:=f) (n:=n) (l:=l) fun y hy=>h y (by simp [hy])
  rw [List.map_cons,List.sum_cons,yqlc,Nat.mul_add];omega
theorem zp2 {xs:List Str} (h:zbz xs≤2000000):Small xs:=by
 have e: ∀l:List Str,zeR l=(l.map (fun x:yqS=>x.length)).sum:=by
  intro l
  induction l with
  |nil=>rfl
  |cons s l ih=>simp only [zeR,List.map_cons,List.sum_cons,ih]
 unfold zbz at h
 exact⟨by omega,by rw [e];omega⟩
theorem zAp {t:zab} (h:zbn t≤2000000):zdT t:=by
 unfold zbn ze5 at h
 have hs:=zp2 (xs:=t.ao) (by omega)
 refine⟨by omega,by have:=hs.1;omega,hs.each,by omega,fun x hx=> ?_⟩
 have h1:=zhR (tot:=zjx) hx
 have e:zjx x=x.ab.length:=rfl
 omega
theorem zBA {s:zai} (h:zbJ s≤2000000):zjF s:=by
 unfold zbJ at h
 have h1:zbT s.ak≤2000000:=by omega
 have h2:zfK s.bm≤2000000:=by omega
 have h3:zbR s.ay≤2000000:=by omega
 refine⟨by omega,by unfold zbT at h1;omega,fun t ht=>zAp ?_,by unfold zfK at h2;omega,by unfold zbR at h3;omega,fun w hw=> ?_⟩
 ·have:=zhR (tot:=zbn) ht
  unfold zbT at h1
  omega
 ·have:=zhR (tot:=zel) hw
  have e:zel w=w.ae.length+w.az.length:=rfl
  unfold zbR at h3
  omega
theorem zDp {a:zax} (h:zb6 a≤2000000):zkP a.aw:=by
 unfold zb6 zcG zik at h
 exact⟨zp2 (by omega),zp2 (by omega)⟩
theorem zFb {l:List zaa} (h:zaP l=true):zbR l≤2000:=by
 obtain⟨hr,_⟩:=zdm h
 have hl:=hr.len
 have:=zCJ (f:=zel) (n:=36) (l:=l) fun w hw=>by
  have h1:=zsF (hr.cu w hw)
  have h2:=zmX (hr.cu w hw)
  unfold zel
  omega
 unfold zbR
 omega
theorem zFc {s r:zai} (h:zFd s r):zbJ r≤zbJ s+2000:=by
 have h1:=zFb h.cu.2.2.2.2.2.2
 have h2:=h.at_
 unfold zbJ
 rw [h.name,h.ways]
 unfold zfK
 omega
def zaE:List zdk→Nat→Nat→List zaa→Str→List zaa × Nat × Str
 | [],_,n,st,last=>(st,n,last)
 |_::_,0,n,st,last=>(st,n,last)
 |k::ks,m+1,n,st,last=>if(zei st k.cg).2=true then zaE ks m (n+1) (zei st k.cg).1 k.a8 else(st,n,last)
def znW (k:zdk):Prop:=k.cg.length≤8∧ ∀o∈k.cg,OkO o
theorem zmh: ∀(ks:List zdk) (m n:Nat) {st:List zaa} {last:Str},(∀k∈ks,znW k)→zaP st=true→zaP (zaE ks m n st last).1=true
 | [],_,_,_,_,_,h=>by simpa [zaE]using h
 |_::_,0,_,_,_,_,h=>by simpa [zaE]using h
 |k::ks,m+1,n,st,last,hk,h=>by
  unfold zaE
  split
  ·exact zmh ks m (n+1) (fun k h=>hk k (by simp [h])) (zmj (hk k (by simp)).1 (hk k (by simp)).2 h)
  ·exact h
theorem zuy {f:zaK} {many:Nat} {rest:List zdk} (hl:rest.length≤2000000) (hm:many≤24) (ho: ∀k∈rest,znW k): ∀(m q:Nat) (st:List zaa) (last:Str),q+m=rest.length→zaP st=true→
  zak (fun s:List zaa × Int × yqS=>zbW f many rest s.1 s.2.1 s.2.2) (st,(q:Int),last)=zhH f rest (zaE (rest.drop q) (many-q) q st last).1 ((zaE (rest.drop q) (many-q) q st last).2.1:Int) (zaE (rest.drop q) (many-q) q st last).2.2
 |0,q,st,last,hq,hg=>by
  have hd:rest.drop q= []:=List.drop_eq_nil_of_le (by omega)
  rw [hd]
  refine zaO ?_
  show zbW f many rest st q last=_
  unfold zbW
  rw [if_neg (by
   rw [decide_eq_true_eq]
   cases h:decide ((rest.length:Int)<many)with
   |true=>simp only [cond_true];omega
   |false=>simp only [cond_false];rw [decide_eq_false_iff_not]at h;omega)]
  rfl
 |m+1,q,st,last,hq,hg=>by
  have hlt:q<rest.length:=by omega
  have hd:rest.drop q=rest[q]::rest.drop (q+1):=List.drop_eq_getElem_cons hlt
  by_cases hqm:q<many
  ·have hc:(q:Int)<(bif decide ((rest.length:Int)<many)then(rest.length:Int)else(many:Int)):=by
    cases h:decide ((rest.length:Int)<many)with
    |true=>simp only [cond_true];omega
    |false=>simp only [cond_false];omega
   obtain⟨h8,hoo⟩:=ho _ (List.getElem_mem hlt)
   have hrun:=zx7 h8 hoo hg
   have hmm:many-q=(many-(q+1))+1:=by omega
   rw [hd,hmm]
   unfold zaE
   by_cases hdo:(zei st rest[q].cg).2=true
   ·rw [if_pos hdo]
    refine(za8 (?_:zbW f many rest st q last=some (.inl ((zei st rest[q].cg).1,((q+1:Nat):Int),rest[q].a8)))).trans (zuy hl hm ho m (q+1) _ _ (by omega) (zmj h8 hoo hg))
    unfold zbW
    rw [if_pos (decide_eq_true hc),zac hlt,yqob,hrun,yqob,if_neg (by simp [hdo]),zaW hlt (by omega)]
   ·rw [if_neg hdo]
    refine zaO ?_
    show zbW f many rest st q last=_
    unfold zbW
    rw [if_pos (decide_eq_true hc),zac hlt,yqob,hrun,yqob,if_pos (by simpa using hdo)]
  ·have hmm:many-q=0:=by omega
   rw [hd,hmm]
   refine zaO ?_
   show zbW f many rest st q last=_
   unfold zbW
   rw [if_neg (by
    rw [decide_eq_true_eq]
    cases h:decide ((rest.length:Int)<many)with
    |true=>rw [decide_eq_true_eq]at h;simp only [cond_true];omega
    |false=>simp only [cond_false];omega)]
   rfl
def behind (last k:Str):Bool:= !(Op.bytesLess k last||k==last)
theorem zzG {ks:List zdk} {st:List zaa} {f:zaK} {many:Int} (hl:ks.length≤2000000) (hk: ∀k∈ks,znW k) (hg:zaP st=true) (h1:1≤many) (h2:many≤24):
  zeY ks st f many=some ((zaE (ks.filter fun k=>behind f.aq k.a8) many.toNat 0 st f.aq).1,⟨(zaE (ks.filter fun k=>behind f.aq k.a8) many.toNat 0 st f.aq).2.2,f.br||((zaE (ks.filter fun k=>behind f.aq k.a8) many.toNat 0 st f.aq).2.1==(ks.filter fun k=>behind f.aq k.a8).length)⟩):=by
 have hc:zbK ks=some ks:=zkW (by omega) (by omega)
 have hp: ∀k∈ks,ziU k f=some (Op.bytesLess k.a8 f.aq||k.a8==f.aq):=fun k _=>rfl
 have hD:zcu ks (fun y0_=>ziU y0_ f)=some (ks.filter fun k=>behind f.aq k.a8):=by
  unfold zcu
  rw [zae (by omega),zns _ hp];rfl
 unfold zeY
 rw [hc,yqob,hD,yqob]
 generalize hr:(ks.filter fun k=>behind f.aq k.a8)=rest
 have hrl:rest.length≤ks.length:=by rw [←hr];exact List.length_filter_le _ _
 have hro: ∀k∈rest,znW k:=fun k h=>by rw [←hr]at h;exact hk k (List.mem_filter.1 h).1
 obtain⟨m,rfl⟩:=Int.eq_ofNat_of_zero_le (show 0≤many by omega)
 have e:=zuy (f:=f) (many:=m) (rest:=rest) (by omega) (by omega) hro rest.length 0 st f.aq (by omega) hg
 rw [List.drop_zero,Nat.sub_zero]at e
 refine e.trans ?_
 rw [Int.toNat_natCast]
 have hgr:=zmh rest m 0 (last:=f.aq) hro hg
 generalize zaE rest m 0 st f.aq=r at hgr
 unfold zhH
 have hR:=(zdm hgr).1.len
 have hcl:zap r.1=some r.1:=zkW (by omega) (by omega)
 have e2:(((r.2.1:Nat):Int)==((rest.length:Nat):Int))=(r.2.1==rest.length):=by
  rw [Bool.eq_iff_iff,beq_iff_eq,beq_iff_eq];omega
 rw [hcl,yqob,e2]
theorem zja (last k:Str):behind last k=bl last k:=by unfold behind;rw [zrI,Bool.not_not]
def zkm:List zdk→Nat→List zaa→Str→List zaa × Str
 | [],_,st,last=>(st,last)
 |k::ks,m,st,last=>if m=0∨behind last k.a8=false then zkm ks m st last else if(zei st k.cg).2=true then zkm ks (m-1) (zei st k.cg).1 k.a8 else(st,last)
theorem zuI: ∀(ks:List zdk) (st:List zaa) (last:Str),zkm ks 0 st last=(st,last)
 | [],_,_=>rfl
 |k::ks,st,last=>by unfold zkm;rw [if_pos (.inl rfl)];exact zuI ks st last
theorem zzy: ∀(ks:List zdk) (m n:Nat) (st:List zaa) (last:Str),ks.Pairwise (fun a b=>bl a.a8 b.a8=true)→(∀k∈ks,behind last k.a8=true)→zkm ks m st last=((zaE ks m n st last).1,(zaE ks m n st last).2.2)
 | [],m,n,st,last,_,_=>by simp [zkm,zaE]
 |k::ks,0,n,st,last,_,_=>by rw [zuI];simp [zaE]
 |k::ks,m+1,n,st,last,hr,hb=>by
  rw [List.pairwise_cons]at hr
  unfold zkm zaE
  rw [if_neg (by rw [hb k (by simp)];simp)]
  by_cases hd:(zei st k.cg).2=true
  ·rw [if_pos hd,if_pos hd,Nat.add_sub_cancel]
   exact zzy ks m (n+1) _ _ hr.2 fun q hq=>by rw [zja];exact hr.1 q hq
  ·rw [if_neg hd,if_neg hd]
theorem zqB: ∀(ks:List zdk) (m:Nat) (st:List zaa) (last:Str),ks.Pairwise (fun a b=>bl a.a8 b.a8=true)→zkm ks m st last=zkm (ks.filter fun k=>behind last k.a8) m st last
 | [],m,st,last,_=>rfl
 |k::ks,m,st,last,hr=>by
  rw [List.pairwise_cons]at hr
  by_cases hb:behind last k.a8=true
  ·have hall:ks.filter (fun k=>behind last k.a8)=ks:=List.filter_eq_self.2 fun q hq=>by
    rw [zja]at hb ⊢
    exact zdZ hb (hr.1 q hq)
   rw [List.filter_cons_of_pos (by simpa using hb),hall]
  ·rw [List.filter_cons_of_neg (by simpa using hb)]
   have:zkm (k::ks) m st last=zkm ks m st last:=by
    rw [zkm,if_pos (.inr (by simpa using hb))]
   rw [this]
   exact zqB ks m st last hr.2
theorem zux {ks:List zdk} {m:Nat} {st:List zaa} {last:Str} (hr:ks.Pairwise (fun a b=>bl a.a8 b.a8=true)):zkm ks m st last=((zaE (ks.filter fun k=>behind last k.a8) m 0 st last).1,(zaE (ks.filter fun k=>behind last k.a8) m 0 st last).2.2):=
 (zqB ks m st last hr).trans (zzy _ m 0 st last (hr.filter _) fun k hk=>by simpa using(List.mem_filter.1 hk).2)
theorem zwp: ∀(ks:List zdk) (m n:Nat) (st:List zaa) (last:Str),n≤(zaE ks m n st last).2.1∧(zaE ks m n st last).2.1≤n+ks.length
 | [],m,n,st,last=>by simp [zaE]
 |k::ks,0,n,st,last=>by simp [zaE]
 |k::ks,m+1,n,st,last=>by
  unfold zaE
  split
  ·have:=zwp ks m (n+1) (zei st k.cg).1 k.a8
   simp only [yqlc];omega
  ·simp
theorem zts: ∀(ks:List zdk) (m n:Nat) (st:List zaa) (last:Str),ks.Pairwise (fun a b=>bl a.a8 b.a8=true)→(∀k∈ks,bl last k.a8=true)→ ∀(i:Nat) (h:i<ks.length),bl (zaE ks m n st last).2.2 ks[i].a8=decide ((zaE ks m n st last).2.1≤n+i)
 | [],_,_,_,_,_,_,i,h=>by simp at h
 |k::ks,0,n,st,last,_,hb,i,h=>by
  simp only [zaE]
  rw [hb _ (List.getElem_mem h)]
  exact(decide_eq_true (by omega)).symm
 |k::ks,m+1,n,st,last,hr,hb,i,h=>by
  rw [List.pairwise_cons]at hr
  unfold zaE
  split
  ·cases i with
   |zero=>
    have h1:=zwp ks m (n+1) (zei st k.cg).1 k.a8
    rw [decide_eq_false (by omega)]
    have key: ∀(ks:List zdk) (m n:Nat) (st:List zaa) (last:Str),ks.Pairwise (fun a b=>bl a.a8 b.a8=true)→(∀q∈ks,bl last q.a8=true)→(zaE ks m n st last).2.2=last∨bl last (zaE ks m n st last).2.2=true:=by
     intro ks
     induction ks with
     |nil=>intro m n st last _ _;left;simp [zaE]
     |cons q ks ih=>
      intro m n st last hr hb
      rw [List.pairwise_cons]at hr
      cases m with
      |zero=>left;simp [zaE]
      |succ m=>
       unfold zaE
       split
       ·rcases ih m (n+1) (zei st q.cg).1 q.a8 hr.2 hr.1 with e|e
        ·rw [e];exact .inr (hb q (by simp))
        ·exact .inr (zdZ (hb q (by simp)) e)
       ·left;rfl
    show bl _ k.a8=false
    rcases key ks m (n+1) (zei st k.cg).1 k.a8 hr.2 hr.1 with e|e
    ·rw [e]
     cases hb2:bl k.a8 k.a8 with
     |false=>rfl
     |true=>exact absurd rfl (zmx hb2)
    ·cases hb2:bl (zaE ks m (n+1) (zei st k.cg).1 k.a8).2.2 k.a8 with
     |false=>rfl
     |true=>exact absurd rfl (zmx (zdZ e hb2))
   |succ i=>
    have:=zts ks m (n+1) (zei st k.cg).1 k.a8 hr.2 hr.1 i (by simpa using h)
    rw [List.getElem_cons_succ,this]
    congr 1
    rw [eq_iff_iff];omega
  ·rw [hb _ (List.getElem_mem h)]
   exact(decide_eq_true (show n≤n+i by omega)).symm
def zuK (ks:List zdk) (f:zaK) (m:Nat) (st:List zaa):List zaa × zaK:=((zaE (ks.filter fun k=>behind f.aq k.a8) m 0 st f.aq).1,⟨(zaE (ks.filter fun k=>behind f.aq k.a8) m 0 st f.aq).2.2,f.br||((zaE (ks.filter fun k=>behind f.aq k.a8) m 0 st f.aq).2.1==(ks.filter fun k=>behind f.aq k.a8).length)⟩)
theorem znh {c:UInt8}: ∀{p q:Str},(∀b∈p,b≠c)→zbj c (p++ [c]++q)=p::zbj c q:=fun{p q} h=>by
 rw [List.append_assoc];exact zje h
theorem zs9 {b:UInt8} (h:zgu b=true):b≠47∧b≠44∧b≠46:=by
 refine⟨?_, ?_, ?_⟩<;>(rintro rfl;revert h;decide)
theorem zGe {t:zab} {n:Str} (hg:zah t=true) (hn:zbB n 1=true): ∀b∈head t n,b≠47:=by
 intro b hb
 unfold head at hb
 simp only [yqma,List.mem_singleton]at hb
 rcases hb with(hb|hb)|hb
 ·exact(zs9 (zib (zhE hg) b hb)).1
 ·subst hb;decide
 ·exact(zs9 (zib hn b hb)).1
theorem zlH {t:zab} {n:Str} {c:Int} {r:zch} (hg:zah t=true) (hn:zbB n 1=true) (h:zaq t r=true):zbj 47 (zeq t n c r)= [head t n,zfY r c,zfY r 0]:=by
 unfold zeq
 rw [show head t n++ [47]++zfY r c++ [47]++zfY r 0=head t n++ [47]++(zfY r c++ [47]++zfY r 0) by simp,znh (zGe hg hn),znh fun b hb=>(zs9 (zpR h c b hb)).1,zeZ fun b hb=>(zs9 (zpR h 0 b hb)).1]
theorem zkp (t:zab) (r:zch):(zfv t r).ae=t.ab++ [47]++zfY r 0:=by
 unfold zfv zfY
 rw [List.head?_eq_getElem?]
 rfl
theorem zxp {t:zab} {r:zch} (hg:zah t=true) (h:zaq t r=true):zbj 47 (zfv t r).ae= [t.ab,zfY r 0]:=by
 rw [zkp,znh fun b hb=>(zs9 (zib (zhE hg) b hb)).1,zeZ fun b hb=>(zs9 (zpR h 0 b hb)).1]
theorem zBg {t:zab} {n:Str} {r:zch} (hg:zah t=true) (h:zaq t r=true):zcf t n (zfv t r).ae=false:=by
 unfold zcf
 rw [zxp hg h]
theorem zxL {t:zab} {r:zch} {c:Int} (h:zaq t r=true) (h0:0≤c) (h1:c≤(t.ao.length:Int)-1):field (zfY r c)=true:=by
 unfold zaq at h
 simp only [yqba,beq_iff_eq]at h
 have hl:c.toNat<r.au.length:=by have:=h.1;omega
 unfold zfY
 rw [List.getElem?_eq_getElem hl]
 exact yqal.1 h.2 _ (List.getElem_mem hl)
theorem zo2 {t:zab} {n m:Str} {c:Int} {r:zch} (hg:zah t=true) (hm:zbB m 1=true) (h:zaq t r=true) (h0:0≤c) (h1:c≤(t.ao.length:Int)-1):zcf t n (zeq t m c r)=decide (m=n):=by
 have hc:=ziL hg
 unfold zcf
 rw [zlH hg hm h]
 simp only [zxL h h0 h1,zxL h (show(0:Int)≤0 by omega) (by omega),Bool.and_true]
 rw [Bool.eq_iff_iff]
 simp only [beq_iff_eq,decide_eq_true_eq]
 unfold head
 constructor
 ·intro e;exact List.append_cancel_left e
 ·rintro rfl;rfl
theorem zy4 {t:zab} {n:Str} {c:Int} {r r':zch} (hg:zah t=true) (hn:zbB n 1=true) (h:zaq t r=true) (h':zaq t r'=true) (e:zeq t n c r=zeq t n c r'):zfY r 0=zfY r' 0:=by
 have h1:=zlH (c:=c) hg hn h
 rw [e,zlH hg hn h']at h1
 simp only [List.cons.injEq,and_true]at h1
 exact h1.2.2.symm
theorem zlM {t:zab} {n:Str} {c:Int} {r r':zch} (hg:zah t=true) (hn:zbB n 1=true) (h:zaq t r=true) (h':zaq t r'=true):(zfv t r).ae≠zeq t n c r':=by
 intro e
 have h1:=zxp hg h
 rw [e,zlH hg hn h']at h1
 simp at h1
theorem zAH {xs:List Str} (hx:xs≠ []) (h: ∀x∈xs,∀b∈x,b≠44):zbj 44 (Lib.join xs [44])=xs:=by
 induction xs with
 |nil=>exact absurd rfl hx
 |cons x r ih=>
  cases r with
  |nil=>rw [Lib.join_one,zeZ (h x (by simp))]
  |cons y r=>
   have e:Lib.join (x::y::r) [44]=x++ [44]++Lib.join (y::r) [44]:=by
    rw [Lib.join_cons,Lib.join_cons]
    simp [Lib.joinTail]
   rw [e,znh (h x (by simp)),ih (by simp) fun z hz=>h z (by simp [hz])]
theorem zrv {t:zab} {r:zch} (hg:zah t=true) (h:zaq t r=true):zeW (zfv t r)=r:=by
 have hc:=ziL hg
 have hn:=zit (zhE hg)
 have hl:=h
 unfold zaq at hl
 simp only [yqba,beq_iff_eq]at hl
 have hf:=zqh h
 obtain⟨vs⟩:=r
 cases vs with
 |nil=>simp at hl;omega
 |cons v vs=>
  have hne:vs≠ []:=by rintro rfl;simp at hl;omega
  unfold zeW zfv
  simp only [List.head?_cons,Option.getD_some,List.tail_cons]
  rw [zAH hne fun x hx b hb=>(zs9 (hf x (by simp [hx]) b hb)).2.1]
  congr 1
  congr 1
  have:(t.ab++ [47]++v).drop 2=v:=by
   rw [List.drop_append_of_le_length (by simp [hn])]
   rw [List.drop_of_length_le (by simp [hn])]
   rfl
  exact this
theorem zIz {t:zab} {r:zch} (hg:zah t=true) (h:zaq t r=true):zbl t (zfv t r)=true:=by
 unfold zbl
 rw [zrv hg h,h]
 unfold zrW
 simp
theorem zjQ {t:zab} {w:zaa} (h:zbl t w=true):zaq t (zeW w)=true∧w=zfv t (zeW w):=by
 unfold zbl zrW at h
 simp only [yqba,beq_iff_eq]at h
 obtain⟨h1,h2,h3,h4⟩:=h
 refine⟨h1, ?_⟩
 cases w
 cases hq:zfv t (zeW _)
 rename_i a b c d e f
 rw [hq]at h2 h3 h4
 simp only at h2 h3 h4
 rw [h2,h3,h4]
def zqp (t:zab) (a:zao):List zaa:=
 if a.aj=1 then [⟨(zfv t a.bh).ae,(zfv t a.bh).az,false⟩]else
 if a.aj=2 then [⟨(zfv t a.bg).ae, [],true⟩]else [⟨(zfv t a.bg).ae,(zfv t a.bh).az,false⟩]
def zq4 (t:zab) (a:zao) (x:zbh):List zaa:=
 (if ztB t a x≠ []∧ztB t a x≠zq7 t a x∧x.al≥1 then [⟨ztB t a x, [],true⟩]else [])++(if zq7 t a x≠ []∧x.al≥2 then [⟨zq7 t a x, [],false⟩]else [])
def zkI (t:zab) (a:zao):List zaa:=zqp t a++t.af.flatMap (zq4 t a)
def zBF (t:zab) (a:zao) (st st':List zaa):Prop:=
 ∀y,y∈st'↔y.bd=false∧(y∈zkI t a∨y∈st∧ ∀w∈zkI t a,w.ae≠y.ae)
def zIA (t:zab) (a:zao) (st:List zaa):Prop:=
 (a.aj=1→ ∀w∈st,w.ae≠(zfv t a.bh).ae)∧(a.aj≠1→zfv t a.bg∈st)
theorem zic {t:zab} (h:zah t=true):zdT t:=by
 have hn:=(zkA (zhE h)).1
 have h0:=h
 unfold zah at h
 simp only [yqba,decide_eq_true_eq]at h
 have hl:=zaY.1 h.1.1.2.2
 have hc:=h.1.1.2.1
 refine⟨by omega,by omega,fun c hm=> ?_,by omega,fun x hx=> ?_⟩
 ·obtain⟨i,hi,rfl⟩:=List.mem_iff_getElem.1 hm
  unfold zqR at hc
  have:=yqal.1 hc i (List.mem_range.2 hi)
  unfold zwQ at this
  rw [List.getElem?_eq_getElem hi]at this
  simp only [Option.getD_some,yqba]at this
  have:=(zkA this.1).1
  omega
 ·have:=(zkA (zeB h0 hx).1).1
  omega
structure zBU (l:List Str):Prop where
 len:l.length≤10
 each: ∀s∈l,s.length≤10
theorem zBU.small {l:List Str} (h:zBU l):Small l:=⟨by have:=h.len;omega,by
 have h1:=zsc h.each
 have h2:=h.len
 have h3:10*l.length≤100:=by omega
 omega⟩
theorem znn {t:zab} {r:zch} (hg:zah t=true) (h:zaq t r=true):zBU r.au∧2≤r.au.length:=by
 have hc2:=ziL hg
 have h4:t.ao.length≤4:=by
  have:=hg
  unfold zah at this
  simp only [yqba,decide_eq_true_eq]at this
  have:=zaY.1 this.1.1.2.2
  omega
 unfold zaq at h
 rw [yqba,beq_iff_eq]at h
 exact⟨⟨by omega,fun s hs=>by have:=ztq (yqal.1 h.2 s hs);omega⟩,by omega⟩
theorem zE0 {k v:Str} (h1:goodKey k=true) (h2:zge v=true):zg4 ⟨k,v,false⟩=true:=by
 unfold zg4 zkX
 rw [h1,h2];rfl
theorem zu7 {t:zab} {r:zch} (hg:zah t=true) (h:zaq t r=true):zun t r:=⟨by
 have h1:=h
 unfold zaq at h1
 rw [yqba,beq_iff_eq]at h1
 omega,(znn hg h).1.small⟩
theorem zqj {t:zab} {l:List zaa} {r:zch} (h:r∈rows t l):zaq t r=true:=by
 unfold rows at h
 obtain⟨w,hw,rfl⟩:=List.mem_map.1 h
 exact(zjQ (List.mem_filter.1 hw).2).1
theorem zyp {t:zab} {x:zbh} {r:zch} (hg:zah t=true) (hx:x∈t.af) (hr:zaq t r=true):zc0 t x r=some (zeq t x.ab x.bj r)∧zg4 ⟨zeq t x.ab x.bj r, [],false⟩=true:=by
 have hS:=zic hg
 exact⟨zrA hS.name (hS.idx x hx) (zvz hg hx) (zu7 hg hr),zE0 (znD hg (zeB hg hx).1 hr) (by decide)⟩
theorem znC {w:zaa} (h:zg4 w=true):znO w:=⟨by have:=zsF h;omega,by have:=zmX h;omega⟩
def zdn (t:zab) (x:zbh) (r:zch):zdk:=⟨(zfv t r).ae, [⟨7,(zfv t r).ae,(zfv t r).az,0⟩,⟨2,zeq t x.ab x.bj r, [],0⟩]⟩
def zbA (k:Str):zdk:=⟨k, [⟨3,k, [],0⟩]⟩
theorem zvh {t:zab} {x:zbh} {r:zch} (hg:zah t=true) (hx:x∈t.af) (hr:zaq t r=true):znW (zdn t x r):=by
 have h1:=zmD hg hr
 have h2:=znD (n:=x.ab) (c:=x.bj) hg (zeB hg hx).1 hr
 refine⟨by simp [zdn],fun o ho=> ?_⟩
 simp only [zdn,yqmc,List.not_mem_nil,or_false]at ho
 rcases ho with rfl|rfl
 ·exact⟨h1.1,h1.2,rfl,by simp,by simp⟩
 ·exact⟨h2,show zge ([]:Str)=true by decide,rfl,by simp,by simp⟩
theorem ztf {k:Str} (h:goodKey k=true):znW (zbA k):=by
 refine⟨by simp [zbA],fun o ho=> ?_⟩
 simp only [zbA,yqmc,List.not_mem_nil,or_false]at ho
 subst ho
 exact⟨h,show zge ([]:Str)=true by decide,rfl,by simp,by simp⟩
theorem ztr {t:zab} {x:zbh} {f:zaK} {R:List zch} (hg:zah t=true) (hx:x∈t.af) (hl:R.length≤2000000) (hR: ∀r∈R,zaq t r=true): ∀(m q many:Nat) (st:List zaa) (last:Str),q+m=R.length→many≤24→zaP st=true→
  zak (fun s:Int × Int × yqS × List zaa=>zbD t f x R s.1 s.2.1 s.2.2.1 s.2.2.2) ((many:Int),(q:Int),last,st)=zdF t f (zkm ((R.drop q).map (zdn t x)) many st last).2 (zkm ((R.drop q).map (zdn t x)) many st last).1
 |0,q,many,st,last,hq,hm,hst=>by
  rw [List.drop_eq_nil_of_le (show R.length≤q by omega)]
  refine zaO ?_
  show zbD t f x R many q last st=_
  unfold zbD
  rw [if_neg (by rw [decide_eq_true_eq];omega)]
  rfl
 |m+1,q,many,st,last,hq,hm,hst=>by
  have hlt:q<R.length:=by omega
  have hr:=hR _ (List.getElem_mem hlt)
  have hS:=zic hg
  obtain⟨hs,h2⟩:=znn hg hr
  have hne:R[q].au≠ []:=fun e=>by rw [e]at h2;simp at h2
  obtain⟨e1,_⟩:=zyp hg hx hr
  have ho:=zvh hg hx hr
  have hdo:=zG7 ho.1 ho.2 hst
  have e2:ziA t x R[q]=some (zdn t x R[q]).cg:=by
   unfold ziA
   rw [zoC hS.name hs.small hne,yqob,e1,yqob];rfl
  have hw:=zaW hlt (by omega)
  have hstep:zbD t f x R many q last st=(if(((many:Int)==0)||(Op.bytesLess (zdn t x R[q]).a8 last||(zdn t x R[q]).a8==last))=true then some (.inl ((many:Int),((q+1:Nat):Int),last,st))else if(zei st (zdn t x R[q]).cg).2=true then some (.inl (IntKind.i64.wrap ((many:Int)-1),((q+1:Nat):Int),(zdn t x R[q]).a8,(zei st (zdn t x R[q]).cg).1))else some (.inr (zdF t f last st))):=by
   unfold zbD
   rw [if_pos (decide_eq_true (show(q:Int)<(R.length:Int) by omega)),zac hlt,yqob,zoC hS.name hs.small hne,yqob,e2,yqob,hdo,yqob,hw]
   rw [show(zdn t x R[q]).a8=(zfv t R[q]).ae from rfl]
   by_cases hz:((many:Int)==0||(Op.bytesLess (zfv t R[q]).ae last||(zfv t R[q]).ae==last))=true
   ·rw [if_pos hz,if_pos hz]
   ·rw [if_neg hz,if_neg hz]
    by_cases hd:(zei st (zdn t x R[q]).cg).2=true
    ·rw [if_pos hd,if_neg (by simp [hd])]
    ·rw [if_neg hd,if_pos (by simpa using hd)]
  rw [List.drop_eq_getElem_cons hlt,List.map_cons]
  unfold zkm
  by_cases hc:many=0∨behind last (zdn t x R[q]).a8=false
  ·rw [if_pos hc]
   refine(za8 ?_).trans (ztr hg hx hl hR m (q+1) many st last (by omega) hm hst)
   show zbD t f x R many q last st=_
   rw [hstep,if_pos]
   unfold behind at hc
   rcases hc with hc|hc
   ·subst hc;rfl
   ·have hc:(Op.bytesLess (zdn t x R[q]).a8 last||(zdn t x R[q]).a8==last)=true:=by
     cases h:(Op.bytesLess (zdn t x R[q]).a8 last||(zdn t x R[q]).a8==last)with
     |true=>rfl
     |false=>rw [h]at hc;simp at hc
    rw [hc,Bool.or_true]
  ·rw [if_neg hc]
   have hc2: ¬(((many:Int)==0)||(Op.bytesLess (zdn t x R[q]).a8 last||(zdn t x R[q]).a8==last))=true:=by
    rw [not_or]at hc
    obtain⟨c1,c2⟩:=hc
    unfold behind at c2
    have c2:(Op.bytesLess (zdn t x R[q]).a8 last||(zdn t x R[q]).a8==last)=false:=by
     cases h:(Op.bytesLess (zdn t x R[q]).a8 last||(zdn t x R[q]).a8==last)with
     |false=>rfl
     |true=>rw [h]at c2;simp at c2
    rw [c2,Bool.or_false,beq_iff_eq]
    omega
   have hmz:0<many:=by
    rcases Nat.eq_zero_or_pos many with h|h
    ·exact absurd (.inl h) hc
    ·exact h
   by_cases hd:(zei st (zdn t x R[q]).cg).2=true
   ·rw [if_pos hd]
    have hw2:IntKind.i64.wrap ((many:Int)-1)=((many-1:Nat):Int):=by rw [zaI (by omega) (by omega)];omega
    refine(za8 ?_).trans (ztr hg hx hl hR m (q+1) (many-1) _ _ (by omega) (by omega) (zmj ho.1 ho.2 hst))
    show zbD t f x R many q last st=_
    rw [hstep,if_neg hc2,if_pos hd,hw2]
   ·rw [if_neg hd]
    refine zaO ?_
    show zbD t f x R many q last st=_
    rw [hstep,if_neg hc2,if_neg hd]
theorem zCd {ks:List Str} {last:Str} (hl:ks.length≤2000000):zi3 ks last=some (ks.any fun k=>behind last k):=by
 have go: ∀(m q:Nat),q+m=ks.length→zak (fun s:Int=>zeP ks last s) (q:Int)=some ((ks.drop q).any fun k=>behind last k):=by
  intro m
  induction m with
  |zero=>
   intro q hq
   rw [List.drop_eq_nil_of_le (show ks.length≤q by omega)]
   refine zaO ?_
   unfold zeP
   rw [if_neg (by rw [decide_eq_true_eq];omega)]
   rfl
  |succ m ih=>
   intro q hq
   have hlt:q<ks.length:=by omega
   rw [List.drop_eq_getElem_cons hlt,List.any_cons]
   by_cases hb:behind last ks[q]=true
   ·rw [hb,Bool.true_or]
    refine zaO ?_
    unfold zeP
    rw [if_pos (decide_eq_true (show(q:Int)<(ks.length:Int) by omega)),zac hlt,yqob,if_pos (show(!(Op.bytesLess ks[q] last||ks[q]==last))=true from hb)]
   ·rw [Bool.not_eq_true]at hb
    rw [hb,Bool.false_or]
    refine(za8 ?_).trans (ih (q+1) (by omega))
    unfold zeP
    rw [if_pos (decide_eq_true (show(q:Int)<(ks.length:Int) by omega)),zac hlt,yqob,if_neg (show¬(!(Op.bytesLess ks[q] last||ks[q]==last))=true by rw [←Bool.not_eq_true]at hb;exact hb),zaW hlt (by omega)]
 have:=go ks.length 0 (by omega)
 rw [List.drop_zero]at this
 exact this
theorem zA9 {t:zab} {st:List zaa} (hg:zah t=true) (hl:st.length≤2000000) (hr:zfu t st=some (rows t st)):zgj t st=some ((rows t st).map fun r=>(zfv t r).ae):=by
 have hR:=znB t st
 have hgr: ∀r∈rows t st,zaq t r=true:=fun r h=>zqj h
 have hS:=zic hg
 unfold zgj
 rw [hr,yqob]
 generalize rows t st=R at hR hgr
 have go: ∀(m q:Nat) (o:List Str),q+m=R.length→o.length=q→zak (fun s:List (yqS) × Int=>zcs t R s.1 s.2) (o,(q:Int))=some (o++(R.drop q).map fun r=>(zfv t r).ae):=by
  intro m
  induction m with
  |zero=>
   intro q o hq ho
   rw [List.drop_eq_nil_of_le (show R.length≤q by omega)]
   refine zaO ?_
   show zcs t R o q=_
   unfold zcs
   rw [if_neg (by rw [decide_eq_true_eq];omega)]
   simp
  |succ m ih=>
   intro q o hq ho
   have hlt:q<R.length:=by omega
   have hr:=hgr _ (List.getElem_mem hlt)
   obtain⟨hs,h2⟩:=znn hg hr
   have hne:R[q].au≠ []:=fun e=>by rw [e]at h2;simp at h2
   rw [List.drop_eq_getElem_cons hlt,List.map_cons]
   refine(za8 (?_:zcs t R o q=some (.inl (o++ [(zfv t R[q]).ae],((q+1:Nat):Int))))).trans ((ih (q+1) _ (by omega) (by simp [ho])).trans (by simp))
   unfold zcs
   rw [if_pos (decide_eq_true (show(q:Int)<(R.length:Int) by omega)),zac hlt,yqob,zoC hS.name hs.small hne,yqob,zae (by rw [yqls];omega),zaW hlt (by omega)]
 have:=go R.length 0 [] (by omega) rfl
 rw [List.drop_zero,List.nil_append]at this
 exact this
theorem zFe {t:zab} {n:Str} {x:zbh} {st:List zaa} (hg:zah t=true) (hx:zf2 t n x) (hxn:x.ab=n) (hn:n.length≤2000000) (hl:st.length≤2000000) (hr:zcT t st=some (rows t st)):zdl t n st=some ((rows t st).map (zdn t x)):=by
 have hR:=znB t st
 have hgr: ∀r∈rows t st,zaq t r=true:=fun r h=>zqj h
 have hS:=zic hg
 unfold zdl
 rw [hr,yqob]
 generalize rows t st=R at hR hgr
 have go: ∀(m q:Nat) (o:List zdk),q+m=R.length→o.length=q→zak (fun s:Int × List zdk=>zbF t n R s.1 s.2) ((q:Int),o)=some (o++(R.drop q).map (zdn t x)):=by
  intro m
  induction m with
  |zero=>
   intro q o hq ho
   rw [List.drop_eq_nil_of_le (show R.length≤q by omega)]
   refine zaO ?_
   show zbF t n R q o=_
   unfold zbF
   rw [if_neg (by rw [decide_eq_true_eq];omega)]
   simp
  |succ m ih=>
   intro q o hq ho
   have hlt:q<R.length:=by omega
   have hr:=hgr _ (List.getElem_mem hlt)
   obtain⟨hs,h2⟩:=znn hg hr
   have hne:R[q].au≠ []:=fun e=>by rw [e]at h2;simp at h2
   have hops:zdX t n R[q]=some (zdn t x R[q]).cg:=by
    unfold zdX
    rw [zoh hS.name hs.small hne,yqob,zrD hS hn hx (zu7 hg hr),yqob]
    subst hxn;rfl
   rw [List.drop_eq_getElem_cons hlt,List.map_cons]
   refine(za8 (?_:zbF t n R q o=some (.inl (((q+1:Nat):Int),o++ [zdn t x R[q]])))).trans ((ih (q+1) _ (by omega) (by simp [ho])).trans (by simp))
   unfold zbF
   rw [if_pos (decide_eq_true (show(q:Int)<(R.length:Int) by omega)),zac hlt,yqob,zoh hS.name hs.small hne,yqob,hops,yqob,zae (by rw [yqls];omega),zaW hlt (by omega)]
   rfl
 have:=go R.length 0 [] (by omega) rfl
 rw [List.drop_zero,List.nil_append]at this
 exact this
theorem zCX {t:zab} {n:Str} {st:List zaa} (hl:st.length≤2000000) (hr:zbg t n st=some (zaG t n st)):zcb t n st=some ((zaG t n st).map zbA):=by
 have hR:=zky t n st
 unfold zcb
 rw [hr,yqob]
 generalize zaG t n st=R at hR
 have go: ∀(m q:Nat) (o:List zdk),q+m=R.length→o.length=q→zak (fun s:Int × List zdk=>zbt R s.1 s.2) ((q:Int),o)=some (o++(R.drop q).map zbA):=by
  intro m
  induction m with
  |zero=>
   intro q o hq ho
   rw [List.drop_eq_nil_of_le (show R.length≤q by omega)]
   refine zaO ?_
   show zbt R q o=_
   unfold zbt
   rw [if_neg (by rw [decide_eq_true_eq];omega)]
   simp
  |succ m ih=>
   intro q o hq ho
   have hlt:q<R.length:=by omega
   rw [List.drop_eq_getElem_cons hlt,List.map_cons]
   refine(za8 (?_:zbt R q o=some (.inl (((q+1:Nat):Int),o++ [zbA R[q]])))).trans ((ih (q+1) _ (by omega) (by simp [ho])).trans (by simp))
   unfold zbt
   rw [if_pos (decide_eq_true (show(q:Int)<(R.length:Int) by omega)),zac hlt,yqob,zae (by rw [yqls];omega),zaW hlt (by omega)]
   rfl
 have:=go R.length 0 [] (by omega) rfl
 rw [List.drop_zero,List.nil_append]at this
 exact this
theorem zAr {t:zab} {x:zbh} {st:List zaa} (hr:zij st):((rows t st).map (zdn t x)).Pairwise (fun a b=>bl a.a8 b.a8=true):=by
 unfold rows
 rw [List.map_map,List.pairwise_map]
 refine List.Pairwise.imp_of_mem (fun{a b} ha hb h=> ?_) (List.Pairwise.filter (zbl t) hr)
 show bl (zfv t (zeW a)).ae (zfv t (zeW b)).ae=true
 rw [←(zjQ (List.mem_filter.1 ha).2).2,←(zjQ (List.mem_filter.1 hb).2).2]
 exact h
theorem zyu {t:zab} {n:Str} {st:List zaa} (hr:zij st):((zaG t n st).map zbA).Pairwise (fun a b=>bl a.a8 b.a8=true):=by
 unfold zaG
 rw [List.map_map,List.pairwise_map]
 exact(List.Pairwise.filter _ hr).imp fun h=>h
theorem zGC {s:zai} {st:List Int} (hs:zbY s=some st) (hl:st.length≤2000000):ziS s=some (st.all fun y=>decide (y≥2),st.any fun y=>decide (y≥2)):=by
 unfold ziS
 rw [hs,yqob]
 have go: ∀(m q:Nat) (a b:Bool),q+m=st.length→zak (fun s:Bool × Bool × Int=>zdG st s.1 s.2.1 s.2.2) (a,b,(q:Int))=some (a&&(st.drop q).all (fun y=>decide (y≥2)),b||(st.drop q).any fun y=>decide (y≥2)):=by
  intro m
  induction m with
  |zero=>
   intro q a b hq
   rw [List.drop_eq_nil_of_le (show st.length≤q by omega)]
   refine zaO ?_
   show zdG st a b q=_
   unfold zdG
   rw [if_neg (by rw [decide_eq_true_eq];omega)]
   simp
  |succ m ih=>
   intro q a b hq
   have hlt:q<st.length:=by omega
   rw [List.drop_eq_getElem_cons hlt,List.all_cons,List.any_cons,←Bool.and_assoc,←Bool.or_assoc]
   refine(za8 ?_).trans (ih (q+1) _ _ (by omega))
   show zdG st a b q=_
   unfold zdG
   rw [if_pos (decide_eq_true (show(q:Int)<(st.length:Int) by omega)),zac hlt,yqob,zaW hlt (by omega)]
 have:=go st.length 0 true false (by omega)
 rw [List.drop_zero,Bool.true_and,Bool.false_or]at this
 exact this
theorem zIi {w:zaJ} {st:List Int} (hn:st.length=w.ah.bm.length) (hl:st.length≤2000000) (hs: ∀(i:Nat) (hi:i<st.length),∃tb,zam w.ah i=some tb∧zaz w.ah tb=some st[i]):zbd w=some ((st.filter fun y=>decide (y≥2)).length:Int):=by
 have go: ∀(m q c:Nat),q+m=st.length→c≤q→zak (fun s:Int × Int=>zav w s.1 s.2) ((c:Int),(q:Int))=some ((c+((st.drop q).filter fun y=>decide (y≥2)).length:Nat):Int):=by
  intro m
  induction m with
  |zero=>
   intro q c hq _
   rw [List.drop_eq_nil_of_le (show st.length≤q by omega)]
   refine zaO ?_
   show zav w c q=_
   unfold zav
   rw [if_neg (by rw [decide_eq_true_eq];omega)]
   simp
  |succ m ih=>
   intro q c hq hc
   have hlt:q<st.length:=by omega
   obtain⟨tb,e1,e2⟩:=hs q hlt
   have hins:zdz st[q]=some (decide (st[q]≥2)):=rfl
   have hw:IntKind.i64.wrap ((q:Int)+1)=((q+1:Nat):Int):=by rw [zaI (by omega) (by omega)];omega
   have hw2:IntKind.i64.wrap ((c:Int)+1)=((c+1:Nat):Int):=by rw [zaI (by omega) (by omega)];omega
   rw [List.drop_eq_getElem_cons hlt,List.filter_cons]
   by_cases hg:st[q]≥2
   ·rw [if_pos (decide_eq_true hg),yqlc]
    refine(za8 ?_).trans ((ih (q+1) (c+1) (by omega) (by omega)).trans (by rw [show c+1+((st.drop (q+1)).filter fun y=>decide (y≥2)).length=c+(((st.drop (q+1)).filter fun y=>decide (y≥2)).length+1)from by omega]))
    show zav w c q=_
    unfold zav
    rw [if_pos (decide_eq_true (show(q:Int)<(w.ah.bm.length:Int) by omega)),e1,yqob,e2,yqob,hins,yqob,if_pos (decide_eq_true hg),hw,hw2]
   ·rw [if_neg (by simpa using hg)]
    refine(za8 ?_).trans (ih (q+1) c (by omega) (by omega))
    show zav w c q=_
    unfold zav
    rw [if_pos (decide_eq_true (show(q:Int)<(w.ah.bm.length:Int) by omega)),e1,yqob,e2,yqob,hins,yqob,if_neg (by simpa using hg),hw]
 have:=go st.length 0 0 (by omega) (by omega)
 rw [List.drop_zero,Nat.zero_add]at this
 exact this
end Go.Proofs.YtgobcjbjogkpjaaGreatDoor
end

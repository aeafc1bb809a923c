/- Parts of a proof, joined: NS, NT, NV, NU, NH, NVG, NDA, NDB, NQS, N17, N18, N19, N20, N21, N22, NM, NN, NB, NKA, NW, NY, NSA, NO, NKC, NLD, NWK, NWL, NWM, NWN, NWO, NWR, NWP, NWT, NLE, PL. -/
import Derived.Test.YtbmbkgalkfmjdaaGreatDoorK9
import Derived.Lib.LaidTab
import Derived.LaidSub
set_option linter.unusedVariables false
set_option linter.unusedSimpArgs false
section
namespace Go.Proofs.YtbmbkgalkfmjdaaGreatDoor
open Go.RowKit
set_option maxRecDepth 100000
abbrev wk (w:zaa):Str:=w.fKey
theorem znt {α β:Type} {xs:List α} {body:Int→Option (Int ⊕ Option β)} (p:α→Bool) (hit:α→Option β) (fin:Option β)
  (hs: ∀(i:Nat) (hi:i<xs.length),body i=some (if p xs[i]=true then .inr (hit xs[i])else .inl ((i+1:Nat):Int))) (he:body xs.length=some (.inr fin)):
  zat body 0=match xs.find? p with|some x=>hit x|none=>fin:=by
 have key: ∀n q,q+n=xs.length→zat body (q:Nat)=match(xs.drop q).find? p with|some x=>hit x|none=>fin:=by
  intro n
  induction n with
  |zero=>
   intro q hq
   have:q=xs.length:=by omega
   subst this
   rw [List.drop_length]
   exact zdg he
  |succ n ih=>
   intro q hq
   have hlt:q<xs.length:=by omega
   rw [List.drop_eq_getElem_cons hlt,List.find?_cons]
   have h1:=hs q hlt
   cases hp:p xs[q]with
   |true=>
    rw [hp,if_pos rfl]at h1
    exact zdg h1
   |false=>
    rw [hp,if_neg (by simp)]at h1
    rw [zeb h1]
    exact ih (q+1) (by omega)
 have:=key xs.length 0 (by omega)
 rw [List.drop_zero]at this
 exact this
def zuW (got:List zgp) (k:Str):Str × Bool × Bool:=match got.find? (fun g=>g.fKey==k)with|some g=>(g.fVal,g.fThere,true)|none=>([],false,false)
def zcB (ws:List zaa) (got:List zgp) (k:Str):Str × Bool × Bool:=match ws.find? (fun w=>w.fKey==k)with|some w=>(w.fVal, !w.fGone,true)|none=>zuW got k
def zcA (rows:List zaa) (k:Str):zgp:=match rows.find? (fun w=>w.fKey==k)with|some w=>⟨k,w.fVal,true⟩|none=>⟨k, [],false⟩
theorem zqa {ws:List zaa} {got:List zgp} {k:Str} (hw:ws.length≤2000000) (hg:got.length≤2000000):zhX ws got k=some (zcB ws got k):=by
 have h2:zet got k=some (zuW got k):=by
  unfold zet zuW
  rw [znt (xs:=got) (body:=fun s:Int=>zcx got k s) (fun g=>g.fKey==k) (fun g=>some (g.fVal,g.fThere,true)) (some ([],false,false)) (fun i hi=>by
   show zcx got k i=_
   unfold zcx
   rw [if_pos (by simpa using hi),zam hi,Option.bind_some,zd5 hi (by omega)]
   split<;>rfl) (by
   show zcx got k got.length=_
   unfold zcx
   rw [if_neg (by simp)])]
  cases got.find? (fun g=>g.fKey==k)<;>rfl
 unfold zhX zcB
 rw [znt (xs:=ws) (body:=fun s:Int=>zcr ws got k s) (fun w=>w.fKey==k) (fun w=>some (w.fVal, !w.fGone,true)) (zet got k) (fun i hi=>by
  show zcr ws got k i=_
  unfold zcr
  rw [if_pos (by simpa using hi),zam hi,Option.bind_some,zd5 hi (by omega)]
  split<;>rfl) (by
  show zcr ws got k ws.length=_
  unfold zcr
  rw [if_neg (by simp)]),h2]
 cases ws.find? (fun w=>w.fKey==k)<;>rfl
theorem zCo {rows:List zaa} {k:Str} (hw:rows.length≤2000000):zjt rows k=some (zcA rows k):=by
 unfold zjt zcA
 rw [znt (xs:=rows) (body:=fun s:Int=>zc8 rows k s) (fun w=>w.fKey==k) (fun w=>some ⟨k,w.fVal,true⟩) (zjS k) (fun i hi=>by
  show zc8 rows k i=_
  unfold zc8
  rw [if_pos (by simpa using hi),zam hi,Option.bind_some,zd5 hi (by omega)]
  split<;>rfl) (by
  show zc8 rows k rows.length=_
  unfold zc8
  rw [if_neg (by simp)])]
 cases rows.find? (fun w=>w.fKey==k)<;>rfl
theorem zm2 {α:Type} (lt:α→Bool) (x:α) (l:List α):zhu lt (x::l)=if lt x=true then zhu lt l+1 else 0:=by
 unfold zhu
 rw [List.takeWhile_cons]
 split<;>rfl
theorem zj9 {x:zaa} {l:List zaa} (h:zfB (x::l)):(∀y∈l,bl x.fKey y.fKey=true)∧zfB l:=by
 unfold zfB zow at h
 rw [List.pairwise_cons]at h
 exact h
theorem zzl {l:List zaa} {k:Str} (h: ∀y∈l,bl k y.fKey=true):l.find? (fun w=>w.fKey==k)=none:=by
 rw [List.find?_eq_none]
 intro y hy
 have:=zkp (h y hy)
 simpa using fun e=>this e.symm
theorem zr4 {k:Str}: ∀{l:List zaa},zfB l→l.find? (fun w=>w.fKey==k)=match l[zhx l k]? with|some w=>if w.fKey=k then some w else none|none=>none
 | [],_=>by simp
 |x::l,h=>by
  obtain⟨h1,h2⟩:=zj9 h
  have ih:=zr4 (k:=k) h2
  rw [zhx,zm2,List.find?_cons]
  by_cases hb:bl x.fKey k=true
  ·have hne:(x.fKey==k)=false:=by simpa using zkp hb
   rw [if_pos hb,hne,List.getElem?_cons_succ]
   exact ih
  ·rw [if_neg hb,List.getElem?_cons_zero]
   by_cases he:x.fKey=k
   ·rw [show(x.fKey==k)=true by simpa using he];simp [he]
   ·rw [show(x.fKey==k)=false by simpa using he]
    simp only [he,if_false]
    have hk:bl k x.fKey=true:=zkv (by simpa using hb) he
    exact zzl fun y hy=>zfn hk (h1 y hy)
theorem zzw {l:List zaa} {k:Str} (hl:l.length≤2000000) (hr:zfB l): ∃i:Int,(zb1 l k=some (i,true)∧ ∃w,getI l i=some w∧l.find? (fun w=>w.fKey==k)=some w)∨(zb1 l k=some (i,false)∧l.find? (fun w=>w.fKey==k)=none):=by
 refine⟨(zhx l k:Nat), ?_⟩
 rw [zEs hl hr,zr4 hr]
 by_cases hp:zhx l k<l.length
 ·rw [List.getElem?_eq_getElem hp]
  by_cases hk:(l[zhx l k]).fKey=k
  ·left
   simp only [hk,decide_true,if_true]
   exact⟨trivial,_,zam hp,rfl⟩
  ·right
   simp only [hk,decide_false,if_false]
   exact⟨trivial,trivial⟩
 ·rw [List.getElem?_eq_none (by omega)]
  right
  exact⟨rfl,rfl⟩
theorem zxc {ws:List zaa} {got:List zgp} {k:Str} (hw:ws.length≤2000000) (hg:got.length≤2000000) (hr:zfB ws):zgQ k ws got=some (zcB ws got k):=by
 unfold zgQ zcB
 obtain⟨i,⟨e,w,e2,e3⟩|⟨e,e3⟩⟩:=zzw (k:=k) hw hr
 ·rw [e,e3,Option.bind_some,if_pos rfl,e2];rfl
 ·rw [e,e3,Option.bind_some,if_neg (by simp)]
  unfold zuW
  rw [znt (xs:=got) (body:=fun s:Int=>zcP k got s) (fun g=>g.fKey==k) (fun g=>some (g.fVal,g.fThere,true)) (some ([],false,false)) (fun i hi=>by
   show zcP k got i=_
   unfold zcP
   rw [if_pos (by simpa using hi),zam hi,Option.bind_some,zd5 hi (by omega)]
   split<;>rfl) (by
   show zcP k got got.length=_
   unfold zcP
   rw [if_neg (by simp)])]
  cases got.find? (fun g=>g.fKey==k)<;>rfl
theorem zAw {rows:List zaa} {k:Str} (hw:rows.length≤2000000) (hr:zfB rows):zii rows k=some (zcA rows k):=by
 unfold zii zcA
 obtain⟨i,⟨e,w,e2,e3⟩|⟨e,e3⟩⟩:=zzw (k:=k) hw hr
 ·rw [e,e3,Option.bind_some,if_neg (by simp),e2];rfl
 ·rw [e,e3,Option.bind_some,if_pos (by simp)]
def leW (k:Str) (w:zaa):Bool:=bl w.fKey k||w.fKey==k
def zBA (l:List zaa) (w:zaa) (q:Nat):List zaa:=
 match(if q=0 then none else l[q-1]?)with
 |some y=>if y.fKey=w.fKey then l.set (q-1) w else l.take q++ [w]++l.drop q
 |none=>l.take q++ [w]++l.drop q
theorem zyg {w:Str} {l:List zaa} (h: ∀y∈l,bl w y.fKey=true):zhu (leW w) l=0:=by
 cases l with
 |nil=>rfl
 |cons y l=>
  rw [zm2,if_neg]
  have h1:=h y (by simp)
  have h2:=zpq h1
  have h3:=zkp h1
  unfold leW
  rw [h2]
  simpa using fun e=>h3 e.symm
theorem zwI {w:zaa}: ∀{l:List zaa},zfB l→zBA l w (zhu (leW w.fKey) l)=zgA wk w l
 | [],_=>by simp [zBA,zgA,zhu]
 |x::l,h=>by
  obtain⟨h1,h2⟩:=zj9 h
  have ih:=zwI (w:=w) h2
  rw [zm2,zgA]
  by_cases ha:bl (wk w) (wk x)=true
  ·have hl:leW w.fKey x=false:=by
    have h3:=zpq ha
    have h4:=zkp ha
    unfold leW
    rw [h3]
    simpa using fun e=>h4 e.symm
   rw [if_pos ha,hl,if_neg (by simp)]
   simp [zBA]
  rw [if_neg ha]
  by_cases he:wk w=wk x
  ·have hl:leW w.fKey x=true:=by unfold leW;rw [show(x.fKey==w.fKey)=true by simpa using he.symm];simp
   have hz:zhu (leW w.fKey) l=0:=zyg fun y hy=>by rw [show w.fKey=x.fKey from he];exact h1 y hy
   rw [if_pos he,hl,if_pos rfl,hz]
   simp [zBA,show x.fKey=w.fKey from he.symm]
  ·have hb:bl x.fKey w.fKey=true:=zkv (by simpa using ha) he
   have hl:leW w.fKey x=true:=by unfold leW;rw [hb];rfl
   rw [if_neg he,hl,if_pos rfl,←ih]
   have hle:=zom (leW w.fKey) l
   generalize zhu (leW w.fKey) l=q at hle
   unfold zBA
   rw [if_neg (by omega),Nat.add_sub_cancel]
   cases q with
   |zero=>
    simp only [List.getElem?_cons_zero,if_true]
    rw [if_neg (fun e=>he e.symm)]
    simp
   |succ q=>
    rw [if_neg (by omega),Nat.add_sub_cancel,List.getElem?_cons_succ,List.getElem?_eq_getElem (by omega)]
    simp only
    split
    ·simp
    ·simp
theorem zzs {w:Str}: ∀{l:List zaa},zfB l→ ∀(j:Nat) (hj:j<l.length),zhu (leW w) l≤j→leW w l[j]=false
 | [],_,j,hj,_=>by simp at hj
 |x::l,h,j,hj,hq=>by
  obtain⟨h1,h2⟩:=zj9 h
  rw [zm2]at hq
  by_cases hx:leW w x=true
  ·rw [if_pos hx]at hq
   cases j with
   |zero=>omega
   |succ j=>exact zzs h2 j (by simpa using hj) (by omega)
  ·have hx':leW w x=false:=by simpa using hx
   cases j with
   |zero=>exact hx'
   |succ j=>
    have hm:l[j]'(by simpa using hj)∈l:=List.getElem_mem _
    have h3:=h1 _ hm
    show leW w (l[j]'(by simpa using hj))=false
    unfold leW at hx' ⊢
    simp only [Bool.or_eq_false_iff,beq_eq_false_iff_ne]at hx' ⊢
    have h4:bl w x.fKey=true:=zkv hx'.1 hx'.2
    have h5:=zfn h4 h3
    exact⟨zpq h5,fun e=>zkp h5 e.symm⟩
theorem zy7 {i:Nat} (h0:0<i) (h:i≤2000000):IntKind.i64.wrap ((i:Int)-1)=((i-1:Nat):Int):=by rw [zaJ (by omega) (by omega)];omega
theorem zkU {l:List zaa} {w:zaa} (hl:l.length≤2000000) (hr:zfB l):za7 l w=some (zgA wk w l):=by
 have hk: ∀q:Nat,q≤l.length→zfm l w (q:Int)=some (zBA l w q):=by
  intro q hq
  have r1:0≤(q:Int)∧(q:Int)≤(l.length:Int)∧(l.length:Int)≤(l.length:Int):=by omega
  have hw1:(zez l (q:Int) (l.length:Int))=l.drop q:=by rw [show(l.length:Int)=((l.length:Nat):Int)from rfl,zC2,List.take_length]
  have hw2:(zez l 0 (q:Int))=l.take q:=zCz l q
  have r2:((([]:List zaa).length:Int)+((l.drop q).length:Int))*40≤140737488355328∧(([]:List zaa).length:Int)+((l.drop q).length:Int)≤140737488355328:=by
   rw [List.length_nil,List.length_drop];omega
  have r3:0≤(0:Int)∧(0:Int)≤(q:Int)∧(q:Int)≤(l.length:Int):=by omega
  have r4:((([]:List zaa).length:Int)+((l.take q).length:Int))*40≤140737488355328∧(([]:List zaa).length:Int)+((l.take q).length:Int)≤140737488355328:=by
   rw [List.length_nil,List.length_take];omega
  have r5:(((l.take q).length:Int)+(([w]:List zaa).length:Int))*40≤140737488355328∧((l.take q).length:Int)+(([w]:List zaa).length:Int)≤140737488355328:=by
   rw [List.length_singleton,List.length_take];omega
  have r6:(((l.take q++ [w]).length:Int)+((l.drop q).length:Int))*40≤140737488355328∧((l.take q++ [w]).length:Int)+((l.drop q).length:Int)≤140737488355328:=by
   rw [List.length_append,List.length_singleton,List.length_take,List.length_drop];omega
  have r7:((([]:List zaa).length:Int)+((l).length:Int))*40≤140737488355328∧(([]:List zaa).length:Int)+((l).length:Int)≤140737488355328:=by
   rw [List.length_nil];omega
  unfold zfm zBA
  by_cases h0:q=0
  ·subst h0
   rw [if_neg (by simp),if_pos rfl]
   rw [zai r1,hw1,zai r2,zai r3,hw2,zai r4,zai r5,zai r6]
  ·have hq1:q-1<l.length:=by omega
   rw [if_pos (by simp;omega),if_neg h0,zy7 (by omega) (by omega),zam hq1,Option.bind_some,List.getElem?_eq_getElem hq1]
   simp only
   by_cases he:(l[q-1]).fKey=w.fKey
   ·rw [if_pos (by simpa using he),if_pos he,zai r7,Option.bind_some]
    rfl
   ·rw [if_neg (by simpa using he),if_neg he]
    rw [zai r1,hw1,zai r2,zai r3,hw2,zai r4,zai r5,zai r6]
 have hle:=zom (leW w.fKey) l
 have key: ∀n j:Nat,j=zhu (leW w.fKey) l+n→j≤l.length→zat (fun s:Int=>zcy l w s) (j:Int)=some (zBA l w (zhu (leW w.fKey) l)):=by
  intro n
  induction n with
  |zero=>
   intro j hj hjl
   have hj':j=zhu (leW w.fKey) l:=by omega
   refine(zdg ?_).trans (hk _ hle)
   show zcy l w (j:Int)=_
   unfold zcy
   by_cases h0:j=0
   ·rw [if_neg (by simp [h0]),hj']
   ·have hq1:j-1<l.length:=by omega
    have ht:=zvO (lt:=leW w.fKey) (l:=l) (i:=j-1) (by omega)
    rw [if_pos (by simp;omega),zy7 (by omega) (by omega),zam hq1,Option.bind_some,if_neg,hj']
    unfold leW at ht
    have ht:(bl l[j-1].fKey w.fKey||l[j-1].fKey==w.fKey)=true:=ht
    show¬(!(bl l[j-1].fKey w.fKey||l[j-1].fKey==w.fKey))=true
    rw [ht];simp
  |succ n ih=>
   intro j hj hjl
   have hq1:j-1<l.length:=by omega
   have ht:=zzs (w:=w.fKey) hr (j-1) hq1 (by omega)
   have e:zcy l w (j:Int)=some (.inl ((j-1:Nat):Int)):=by
    unfold zcy
    rw [if_pos (by simp;omega),zy7 (by omega) (by omega),zam hq1,Option.bind_some,if_pos]
    have ht:(bl l[j-1].fKey w.fKey||l[j-1].fKey==w.fKey)=false:=ht
    show(!(bl l[j-1].fKey w.fKey||l[j-1].fKey==w.fKey))=true
    rw [ht];rfl
   rw [zeb (body:=fun s:Int=>zcy l w s) e]
   exact ih (j-1) (by omega) (by omega)
 unfold za7
 rw [key (l.length-zhu (leW w.fKey) l) l.length (by omega) (Nat.le_refl _),zwI hr]
end Go.Proofs.YtbmbkgalkfmjdaaGreatDoor
end
section
namespace Go.Proofs.YtbmbkgalkfmjdaaGreatDoor
open Go.RowKit
set_option maxRecDepth 100000
structure OkO (o:DOp):Prop where
 key:goodKey o.fKey=true
 val:zgf o.fVal=true
 by_:o.fBy=0
 kind:o.fKind=2∨o.fKind=3∨o.fKind=6∨o.fKind=7
 none:o.fKind=3∨o.fKind=6→o.fVal= []
theorem zyo {s:Str} (h:zgf s=true):s.length≤24:=by
 unfold zgf at h
 simp only [Bool.and_eq_true,decide_eq_true_eq]at h
 omega
theorem zyu {s:Str} (h:goodKey s=true):s.length≤12:=by
 unfold goodKey at h
 simp only [Bool.and_eq_true]at h
 have:=za3.1 h.1
 omega
theorem zuM (s:Str) (h:s.length≤2000000): ∃r,zhC s=some r:=by
 unfold zhC
 rw [zmO,Option.bind_some]
 cases hb:inB s.length 1 6 with
 |false=>exact⟨_,rfl⟩
 |true=>
  have h1:=za3.1 hb
  obtain⟨x,e,_,_⟩:=zgK (xs:=s) (i:=0) (by omega) (by omega)
  rw [if_pos rfl,e,Option.bind_some]
  split
  ·exact⟨_,rfl⟩
  ·have key: ∀(n q:Nat) (v:Int),q+n=s.length→ ∃r,zat (fun s_:Int × Int=>zbB s s_.1 s_.2) (v,(q:Int))=some r:=by
    intro n
    induction n with
    |zero=>
     intro q v hq
     refine⟨v,zdg ?_⟩
     show zbB s v q=_
     unfold zbB
     rw [if_neg (by simp;omega)]
    |succ n ih=>
     intro q v hq
     have hlt:q<s.length:=by omega
     by_cases hd:((decide (((s[q]).toNat:Int)<48))||(decide (((s[q]).toNat:Int)>57)))=true
     ·refine⟨-1,zdg ?_⟩
      show zbB s v q=_
      unfold zbB
      rw [if_pos (by simpa using hlt),zam hlt,Option.bind_some,if_pos hd]
     ·have e:zbB s v q=some (.inl ((IntKind.i64.wrap ((IntKind.i64.wrap ((10:Int)*v))+(IntKind.i64.wrap (IntKind.u8.wrap (((s[q]).toNat:Int)-48))))),((q+1:Nat):Int))):=by
       unfold zbB
       rw [if_pos (by simpa using hlt),zam hlt,Option.bind_some,if_neg hd,zd5 hlt (by omega)]
      obtain⟨r,hr⟩:=ih (q+1) _ (by omega)
      exact⟨r,(zeb (body:=fun s_:Int × Int=>zbB s s_.1 s_.2) e).trans hr⟩
   exact key s.length 0 0 (by omega)
theorem zAA (s:Str) (h:s.length≤2000000): ∃r,zim s=some r:=by
 have hj1: ∀(y:UInt8) (v:Str),v.length≤2000000→ ∃r,zga y v=some r:=by
  intro y v hv
  obtain⟨r,e⟩:=zuM v hv
  unfold zga
  rw [e,Option.bind_some]
  split
  ·exact⟨_,rfl⟩
  ·split<;>exact⟨_,rfl⟩
 unfold zim
 by_cases h0:(s.length:Int)>0
 ·obtain⟨x,e,_,_⟩:=zgK (xs:=s) (i:=0) (by omega) (by omega)
  rw [if_pos (by simpa using h0),e,Option.bind_some]
  split
  ·rw [zai (by omega)]
   exact hj1 _ _ (by rw [zFh,List.length_tail];omega)
  ·exact hj1 _ _ h
 ·rw [if_neg (by simpa using h0)]
  unfold zki
  obtain⟨r,e⟩:=zuM s h
  rw [e,Option.bind_some]
  split<;>exact⟨_,rfl⟩
def zuf (o:DOp) (val:Str) (there:Bool):Bool:=if o.fKind=6 then !there else there&&val==o.fVal
def zfQ (got:List zgp):List DOp→List zaa→Int × Str × List zaa
 | [],ws=>(3, [],ws)
 |o::l,ws=>
  if o.fKind=2 then zfQ got l (zgA wk ⟨o.fKey,o.fVal,false⟩ ws)else
  if o.fKind=3 then zfQ got l (zgA wk ⟨o.fKey, [],true⟩ ws)else
  if(zcB ws got o.fKey).2.2=true then(if zuf o (zcB ws got o.fKey).1 (zcB ws got o.fKey).2.1=true then zfQ got l ws else(2, [], []))
  else(1,o.fKey, [])
structure zqc (n:Nat) (ws:List zaa):Prop where
 rise:zfB ws
 len:ws.length≤n
 good: ∀w∈ws,zhc w=true
theorem zhD {n:Nat} {ws:List zaa} {w:zaa} (h:zqc n ws) (hw:zhc w=true):zqc (n+1) (zgA wk w ws):=by
 refine⟨zkd h.rise,Nat.le_trans (zw3 _) (by have:=h.len;omega),fun y hy=> ?_⟩
 rcases(zny (key:=wk) h.rise y).1 hy with rfl|hy
 ·exact hw
 ·exact h.good y hy.1
theorem zqO {o:DOp} (h:OkO o):zhc ⟨o.fKey,o.fVal,false⟩=true:=by
 unfold zhc zkM
 simp [h.key,h.val]
theorem zol {o:DOp} (h:OkO o):zhc ⟨o.fKey, [],true⟩=true:=by
 unfold zhc zkM
 rw [h.key]
 rfl
theorem zm5 {w:zaa} (h:zhc w=true):w.fVal.length≤24:=by
 unfold zhc zkM at h
 simp only [Bool.and_eq_true]at h
 exact zyo h.2.1
theorem zuD {w:zaa} (h:zhc w=true):w.fKey.length≤12:=by
 unfold zhc at h
 simp only [Bool.and_eq_true]at h
 exact zyu h.1
theorem zrY {ws:List zaa} {got:List zgp} {k:Str} (hw: ∀w∈ws,zhc w=true) (hg: ∀g∈got,g.fVal.length≤2000):(zcB ws got k).1.length≤2000:=by
 unfold zcB
 cases e:ws.find? (fun w=>w.fKey==k)with
 |some w=>
  have:=zm5 (hw w (List.mem_of_find?_eq_some e))
  show w.fVal.length≤2000
  omega
 |none=>
  unfold zuW
  cases e2:got.find? (fun g=>g.fKey==k)with
  |some g=>exact hg g (List.mem_of_find?_eq_some e2)
  |none=>simp
theorem zz4 {o:DOp} (h:OkO o) (hk2:o.fKind≠2) (hk3:o.fKind≠3) {val:Str} {there:Bool} (hv:val.length≤2000):zeR o val there=some (zuf o val there):=by
 have e: ∃r,zeF val=some r:=by
  unfold zeF zgV
  rw [zai (by omega)]
  exact⟨_,rfl⟩
 obtain⟨r,e⟩:=e
 unfold zeR zuf
 rw [e,Option.bind_some]
 rcases h.kind with h1|h1|h1|h1
 ·exact absurd h1 hk2
 ·exact absurd h1 hk3
 ·rw [h1];rfl
 ·rw [h1];rfl
theorem zA0 {o:DOp} (h:OkO o) {val:Str} {there:Bool} (hv:val.length≤2000):zit o val there=some (if o.fKind=2∨o.fKind=3 then false else !zuf o val there):=by
 obtain⟨r,e⟩:=zAA val (by omega)
 unfold zit zuf
 rw [e,Option.bind_some]
 rcases h.kind with h1|h1|h1|h1
 ·rw [h1];rfl
 ·rw [h1];rfl
 ·rw [h1];cases there<;>rfl
 ·rw [h1]
  show some (!there||val !=o.fVal)=some (!(there&&val==o.fVal))
  cases there<;>simp [bne]
theorem zCF {ops:List DOp} {got:List zgp} (hl:ops.length≤1000) (ho: ∀o∈ops,OkO o) (hg:got.length≤2000) (hv: ∀g∈got,g.fVal.length≤2000):zir ops got=some (zfQ got ops []):=by
 have key: ∀(n q:Nat) (ws:List zaa),q+n=ops.length→zqc q ws→zat (fun s:Int × List zaa=>zaH ops got s.1 s.2) ((q:Int),ws)=some (zfQ got (ops.drop q) ws):=by
  intro n
  induction n with
  |zero=>
   intro q ws hq hw
   rw [List.drop_eq_nil_of_le (by omega),zfQ]
   refine zdg ?_
   show zaH ops got q ws=_
   unfold zaH
   rw [if_neg (by simp;omega)]
  |succ n ih=>
   intro q ws hq hw
   have hlt:q<ops.length:=by omega
   have hok:=ho _ (List.getElem_mem hlt)
   have hwl:=hw.len
   have hwr:=zd5 hlt (by omega)
   rw [List.drop_eq_getElem_cons hlt,zfQ]
   by_cases h2:(ops[q]).fKind=2
   ·rw [if_pos h2]
    have e:zaH ops got q ws=some (.inl (((q+1:Nat):Int),zgA wk ⟨(ops[q]).fKey,(ops[q]).fVal,false⟩ ws)):=by
     unfold zaH
     rw [if_pos (by simpa using hlt),zam hlt,Option.bind_some,if_pos (by simpa using h2),zoj (by omega) hw.rise,Option.bind_some,hwr]
    rw [zeb (body:=fun s:Int × List zaa=>zaH ops got s.1 s.2) e]
    exact ih (q+1) _ (by omega) (zhD hw (zqO hok))
   rw [if_neg h2]
   by_cases h3:(ops[q]).fKind=3
   ·rw [if_pos h3]
    have e:zaH ops got q ws=some (.inl (((q+1:Nat):Int),zgA wk ⟨(ops[q]).fKey, [],true⟩ ws)):=by
     unfold zaH
     rw [if_pos (by simpa using hlt),zam hlt,Option.bind_some,if_neg (by simpa using h2),if_pos (by simpa using h3),zoj (by omega) hw.rise,Option.bind_some,hwr]
    rw [zeb (body:=fun s:Int × List zaa=>zaH ops got s.1 s.2) e]
    exact ih (q+1) _ (by omega) (zhD hw (zol hok))
   rw [if_neg h3]
   have hsl:=zrY (k:=(ops[q]).fKey) hw.good hv
   have hb:zaH ops got q ws=if(zcB ws got (ops[q]).fKey).2.2=true then(if zuf ops[q] (zcB ws got (ops[q]).fKey).1 (zcB ws got (ops[q]).fKey).2.1=true then some (.inl (((q+1:Nat):Int),ws))else some (.inr (some (2, [], []))))else some (.inr (some (1,(ops[q]).fKey, []))):=by
    unfold zaH
    rw [if_pos (by simpa using hlt),zam hlt,Option.bind_some,if_neg (by simpa using h2),if_neg (by simpa using h3),zxc (by omega) (by omega) hw.rise,Option.bind_some]
    cases hs:(zcB ws got (ops[q]).fKey).2.2 with
    |false=>rw [if_pos (by simp),if_neg (by simp)]
    |true=>
     rw [if_neg (by simp),if_pos rfl,zz4 hok h2 h3 hsl,Option.bind_some]
     have h4: ¬(ops[q]).fKind=4:=by rcases hok.kind with h|h|h|h<;>omega
     cases zuf ops[q] (zcB ws got (ops[q]).fKey).1 (zcB ws got (ops[q]).fKey).2.1 with
     |false=>rfl
     |true=>rw [if_neg (by simp),if_neg (by simpa using h4),if_pos rfl,hwr]
   by_cases hs:(zcB ws got (ops[q]).fKey).2.2=true
   ·rw [if_pos hs]at hb ⊢
    by_cases hk:zuf ops[q] (zcB ws got (ops[q]).fKey).1 (zcB ws got (ops[q]).fKey).2.1=true
    ·rw [if_pos hk]at hb ⊢
     rw [zeb (body:=fun s:Int × List zaa=>zaH ops got s.1 s.2) hb]
     exact ih (q+1) _ (by omega) ⟨hw.rise,by omega,hw.good⟩
    ·rw [if_neg hk]at hb ⊢
     exact zdg hb
   ·rw [if_neg hs]at hb ⊢
    exact zdg hb
 exact key ops.length 0 [] (by omega) ⟨List.Pairwise.nil,Nat.le_refl _,by simp⟩
theorem zCR {ops:List DOp} {got:List zgp} (hl:ops.length≤1000) (ho: ∀o∈ops,OkO o) (hg:got.length≤2000) (hv: ∀g∈got,g.fVal.length≤2000):zmP ops got=some (zfQ got ops []):=by
 have key: ∀(n q:Nat) (ws:List zaa),q+n=ops.length→zqc q ws→zat (fun s:List zaa × Int=>zaM ops got s.1 s.2) (ws,(q:Int))=some (zfQ got (ops.drop q) ws):=by
  intro n
  induction n with
  |zero=>
   intro q ws hq hw
   rw [List.drop_eq_nil_of_le (by omega),zfQ]
   refine zdg ?_
   show zaM ops got ws q=_
   unfold zaM
   rw [if_neg (by simp;omega)]
  |succ n ih=>
   intro q ws hq hw
   have hlt:q<ops.length:=by omega
   have hok:=ho _ (List.getElem_mem hlt)
   have hwl:=hw.len
   have hwr:=zd5 hlt (by omega)
   have hsl:=zrY (k:=(ops[q]).fKey) hw.good hv
   have hgv:=zA0 hok (val:=(zcB ws got (ops[q]).fKey).1) (there:=(zcB ws got (ops[q]).fKey).2.1) hsl
   rw [List.drop_eq_getElem_cons hlt,zfQ]
   by_cases h2:(ops[q]).fKind=2
   ·rw [if_pos h2]
    rw [if_pos (.inl h2)]at hgv
    have e:zaM ops got ws q=some (.inl (zgA wk ⟨(ops[q]).fKey,(ops[q]).fVal,false⟩ ws,((q+1:Nat):Int))):=by
     unfold zaM
     rw [if_pos (by simpa using hlt),zam hlt,Option.bind_some,zqa (by omega) (by omega),Option.bind_some,if_neg (by simp [h2]),hgv,Option.bind_some,if_neg (by simp),if_pos (by simpa using h2),zkU (by omega) hw.rise,Option.bind_some,hwr]
    rw [zeb (body:=fun s:List zaa × Int=>zaM ops got s.1 s.2) e]
    exact ih (q+1) _ (by omega) (zhD hw (zqO hok))
   rw [if_neg h2]
   by_cases h3:(ops[q]).fKind=3
   ·rw [if_pos h3]
    rw [if_pos (.inr h3)]at hgv
    have e:zaM ops got ws q=some (.inl (zgA wk ⟨(ops[q]).fKey, [],true⟩ ws,((q+1:Nat):Int))):=by
     unfold zaM
     rw [if_pos (by simpa using hlt),zam hlt,Option.bind_some,zqa (by omega) (by omega),Option.bind_some,if_neg (by simp [h3]),hgv,Option.bind_some,if_neg (by simp),if_neg (by simpa using h2),if_pos (by simpa using h3),zkU (by omega) hw.rise,Option.bind_some,hwr]
    rw [zeb (body:=fun s:List zaa × Int=>zaM ops got s.1 s.2) e]
    exact ih (q+1) _ (by omega) (zhD hw (zol hok))
   rw [if_neg h3]
   rw [if_neg (by simp [h2,h3])]at hgv
   have hb:zaM ops got ws q=if(zcB ws got (ops[q]).fKey).2.2=true then(if zuf ops[q] (zcB ws got (ops[q]).fKey).1 (zcB ws got (ops[q]).fKey).2.1=true then some (.inl (ws,((q+1:Nat):Int)))else some (.inr (some (2, [], []))))else some (.inr (some (1,(ops[q]).fKey, []))):=by
    unfold zaM
    rw [if_pos (by simpa using hlt),zam hlt,Option.bind_some,zqa (by omega) (by omega),Option.bind_some]
    cases hs:(zcB ws got (ops[q]).fKey).2.2 with
    |false=>rw [if_pos (by simp [h2,h3]),if_neg (by simp)]
    |true=>
     rw [if_neg (by simp),if_pos rfl,hgv,Option.bind_some]
     have h4: ¬(ops[q]).fKind=4:=by rcases hok.kind with h|h|h|h<;>omega
     cases zuf ops[q] (zcB ws got (ops[q]).fKey).1 (zcB ws got (ops[q]).fKey).2.1 with
     |false=>rfl
     |true=>rw [if_neg (by simp),if_neg (by simpa using h2),if_neg (by simpa using h3),if_neg (by simpa using h4),if_pos rfl,hwr]
   by_cases hs:(zcB ws got (ops[q]).fKey).2.2=true
   ·rw [if_pos hs]at hb ⊢
    by_cases hk:zuf ops[q] (zcB ws got (ops[q]).fKey).1 (zcB ws got (ops[q]).fKey).2.1=true
    ·rw [if_pos hk]at hb ⊢
     rw [zeb (body:=fun s:List zaa × Int=>zaM ops got s.1 s.2) hb]
     exact ih (q+1) _ (by omega) ⟨hw.rise,by omega,hw.good⟩
    ·rw [if_neg hk]at hb ⊢
     exact zdg hb
   ·rw [if_neg hs]at hb ⊢
    exact zdg hb
 exact key ops.length 0 [] (by omega) ⟨List.Pairwise.nil,Nat.le_refl _,by simp⟩
theorem zlk {got:List zgp}: ∀(l:List DOp) {n:Nat} {ws:List zaa},(∀o∈l,OkO o)→zqc n ws→zqc (n+l.length) (zfQ got l ws).2.2∧((zfQ got l ws).1=1→ ∃o∈l,o.fKey=(zfQ got l ws).2.1∧ ∀g∈got,g.fKey≠o.fKey)
 | [],n,ws,_,hw=>⟨hw,fun h=>by simp [zfQ]at h⟩
 |o::l,n,ws,ho,hw=>by
  have hok:=ho o (by simp)
  have hl: ∀o∈l,OkO o:=fun x hx=>ho x (by simp [hx])
  have up: ∀{w:List zaa},zqc (n+l.length) w→zqc (n+(o::l).length) w:=fun h=>⟨h.rise,by have:=h.len;rw [List.length_cons];omega,h.good⟩
  rw [zfQ]
  split
  ·obtain⟨a,b⟩:=zlk (got:=got) l hl (zhD hw (zqO hok))
   refine⟨⟨a.rise,by have:=a.len;rw [List.length_cons];omega,a.good⟩,fun h=> ?_⟩
   obtain⟨x,hx,h1,h2⟩:=b h
   exact⟨x,by simp [hx],h1,h2⟩
  ·split
   ·obtain⟨a,b⟩:=zlk (got:=got) l hl (zhD hw (zol hok))
    refine⟨⟨a.rise,by have:=a.len;rw [List.length_cons];omega,a.good⟩,fun h=> ?_⟩
    obtain⟨x,hx,h1,h2⟩:=b h
    exact⟨x,by simp [hx],h1,h2⟩
   ·split
    ·split
     ·obtain⟨a,b⟩:=zlk (got:=got) l hl hw
      refine⟨up a,fun h=> ?_⟩
      obtain⟨x,hx,h1,h2⟩:=b h
      exact⟨x,by simp [hx],h1,h2⟩
     ·exact⟨⟨List.Pairwise.nil,by simp,by simp⟩,fun h=>by simp at h⟩
    ·rename_i hs
     refine⟨⟨List.Pairwise.nil,by simp,by simp⟩,fun _=>⟨o,by simp,rfl,fun g hg e=> ?_⟩⟩
     apply hs
     unfold zcB
     cases e1:ws.find? (fun w=>w.fKey==o.fKey)with
     |some w=>rfl
     |none=>
      unfold zuW
      cases e2:got.find? (fun g=>g.fKey==o.fKey)with
      |some g=>rfl
      |none=>
       rw [List.find?_eq_none]at e2
       exact absurd (by simpa using e) (e2 g hg)
def mu (ops:List DOp) (got:List zgp):Nat:=(ops.filter fun o=>got.all fun g=>g.fKey !=o.fKey).length
theorem zDz {ops:List DOp} {got:List zgp} {g:zgp} {o:DOp} (ho:o∈ops) (hk:o.fKey=g.fKey) (hn: ∀x∈got,x.fKey≠o.fKey):mu ops (got++ [g])<mu ops got:=by
 unfold mu
 have e:(fun o:DOp=>(got++ [g]).all fun x=>x.fKey !=o.fKey)=fun o=>(got.all fun x=>x.fKey !=o.fKey)&&(g.fKey !=o.fKey):=by
  funext x
  rw [List.all_append]
  simp
 have e2:ops.filter (fun o:DOp=>(got++ [g]).all fun x=>x.fKey !=o.fKey)=(ops.filter fun o=>got.all fun x=>x.fKey !=o.fKey).filter fun o=>g.fKey !=o.fKey:=by
  rw [e,List.filter_filter]
  congr 1
  funext x
  rw [Bool.and_comm]
 rw [e2]
 have hm:o∈ops.filter fun o=>got.all fun x=>x.fKey !=o.fKey:=List.mem_filter.2 ⟨ho,List.all_eq_true.2 fun x hx=>by simpa using hn x hx⟩
 generalize ops.filter (fun o=>got.all fun x=>x.fKey !=o.fKey)=l at hm
 have hlt: ∀(l:List DOp),o∈l→(l.filter fun o=>g.fKey !=o.fKey).length<l.length:=by
  intro l
  induction l with
  |nil=>intro h;simp at h
  |cons y l ih=>
   intro h
   rw [List.filter_cons]
   rcases List.mem_cons.1 h with rfl|h
   ·rw [if_neg (by simp [hk])]
    have:=List.length_filter_le (fun o:DOp=>g.fKey !=o.fKey) l
    rw [List.length_cons];omega
   ·have:=ih h
    split
    ·rw [List.length_cons,List.length_cons];omega
    ·rw [List.length_cons];omega
 exact hlt l hm
theorem zE3 (ops:List DOp) (got:List zgp):mu ops got≤ops.length:=List.length_filter_le _ _
def zBJ (rows:List zaa) (ops:List DOp):Nat→List zgp→List zaa × Bool
 |0,_=>([],false)
 |n+1,got=>if(zfQ got ops []).1=1 then zBJ rows ops n (got++ [zcA rows (zfQ got ops []).2.1])else((zfQ got ops []).2.2,(zfQ got ops []).1==3)
structure zsz (rows:List zaa):Prop where
 rise:zfB rows
 len:rows.length≤24
 good: ∀w∈rows,zhc w=true
theorem zAi {rows:List zaa} {k:Str} (h:zsz rows):(zcA rows k).fVal.length≤2000∧(zcA rows k).fKey=k:=by
 unfold zcA
 cases e:rows.find? (fun w=>w.fKey==k)with
 |some w=>
  have:=zm5 (h.good w (List.mem_of_find?_eq_some e))
  exact⟨by show w.fVal.length≤2000;omega,rfl⟩
 |none=>exact⟨by simp,rfl⟩
theorem zwO {rows:List zaa} {ops:List DOp} (hl:ops.length≤8) (ho: ∀o∈ops,OkO o) (hr:zsz rows): ∀(n:Nat) (got:List zgp),mu ops got<n→got.length+n≤1000→(∀g∈got,g.fVal.length≤2000)→
  (∃g,zat (fun s:List zgp=>zbX rows ops s) got=some (g,zBJ rows ops n got))∧(∃g,zat (fun s:List zgp=>zb9 rows ops s) got=some (g,zBJ rows ops n got))∧zqc 8 (zBJ rows ops n got).1
 |0,got,hm,_,_=>by omega
 |n+1,got,hm,hg,hv=>by
  have hi:=zCF (got:=got) (by omega) ho (by omega) hv
  have hs:=zCR (got:=got) (by omega) ho (by omega) hv
  obtain⟨ga,gb⟩:=zlk (got:=got) ops (n:=0) (ws:= []) ho ⟨List.Pairwise.nil,Nat.le_refl _,by simp⟩
  have hrl:=hr.len
  rw [zBJ]
  generalize zfQ got ops []=r at hi hs ga gb
  by_cases h1:r.1=1
  ·rw [if_pos h1]
   obtain⟨o,hom,hok,hon⟩:=gb h1
   obtain⟨t1,t2⟩:=zAi (k:=r.2.1) hr
   have hq:(((got).length:Int)+(([zcA rows r.2.1]:List zgp).length:Int))*40≤140737488355328∧((got).length:Int)+(([zcA rows r.2.1]:List zgp).length:Int)≤140737488355328:=by
    rw [List.length_singleton];omega
   have ei:zbX rows ops got=some (.inl (got++ [zcA rows r.2.1])):=by
    unfold zbX
    rw [hi,Option.bind_some,if_neg (by simp [h1]),zAw (by omega) hr.rise,Option.bind_some,zai hq]
   have es:zb9 rows ops got=some (.inl (got++ [zcA rows r.2.1])):=by
    unfold zb9
    rw [hs,Option.bind_some,if_neg (by simp [h1]),zCo (by omega),Option.bind_some,zai hq]
   rw [zeb (body:=fun s:List zgp=>zbX rows ops s) ei,zeb (body:=fun s:List zgp=>zb9 rows ops s) es]
   refine zwO hl ho hr n _ ?_ (by rw [List.length_append,List.length_singleton];omega) fun g hg'=> ?_
   ·have:=zDz (g:=zcA rows r.2.1) hom (hok.trans t2.symm) hon
    omega
   ·rcases List.mem_append.1 hg' with h|h
    ·exact hv g h
    ·rw [List.mem_singleton]at h;subst h;exact t1
  ·rw [if_neg h1]
   refine⟨⟨got,zdg ?_⟩,⟨got,zdg ?_⟩,ga.rise,by have:=ga.len;show r.2.2.length≤8;omega,ga.good⟩
   ·show zbX rows ops got=_
    unfold zbX
    rw [hi,Option.bind_some,if_pos (by simpa using h1)]
   ·show zb9 rows ops got=_
    unfold zb9
    rw [hs,Option.bind_some,if_pos (by simpa using h1)]
def zqA (rows:List zaa) (ops:List DOp):List zaa × Bool:=zBJ rows ops 9 []
theorem zye {rows:List zaa} {ops:List DOp} (hl:ops.length≤8) (ho: ∀o∈ops,OkO o) (hr:zsz rows):(∃g,zh0 rows ops=some (g,zqA rows ops))∧(∃g,zlP rows ops=some (g,zqA rows ops))∧zqc 8 (zqA rows ops).1:=by
 have:=zE3 ops []
 exact zwO hl ho hr 9 [] (by omega) (by simp) (by simp)
end Go.Proofs.YtbmbkgalkfmjdaaGreatDoor
end
section
namespace Go.Proofs.YtbmbkgalkfmjdaaGreatDoor
open Go.RowKit
set_option maxRecDepth 100000
theorem zq5 {s:Str} (h:field s=true):s.length≤3:=by
 unfold field at h
 simp only [Bool.and_eq_true]at h
 have:=za3.1 h.1
 omega
theorem zvZ {t:zab} {r:zbE} (h:zaq t r=true) (c:Int):(zeB r c).length≤3:=by
 unfold zaq at h
 simp only [Bool.and_eq_true]at h
 unfold zeB
 cases e:r.fVals[c.toNat]? with
 |none=>simp
 |some s=>exact zq5 (List.all_eq_true.1 h.2 s (List.mem_of_getElem? e))
theorem zp4 {k:Nat}: ∀{xs:List Str},(∀s∈xs,s.length≤k)→zdN xs≤k*xs.length
 | [],_=>by simp [zdN]
 |s::xs,h=>by
  have h1:=h s (by simp)
  have h2:=zp4 (k:=k) (xs:=xs) fun y hy=>h y (by simp [hy])
  simp only [zdN,List.length_cons,Nat.mul_add,Nat.mul_one]
  omega
theorem zA3 {t:zab} {r:zbE} (hg:zad t=true) (h:zaq t r=true):(zea t r).fKey.length≤5∧(zea t r).fVal.length≤20:=by
 have hn:=zgJ (zfd hg)
 have hc:=zgT hg
 have hv:=zvZ h 0
 have h':=h
 unfold zaq at h'
 simp only [Bool.and_eq_true,beq_iff_eq]at h'
 have hall: ∀s∈r.fVals,s.length≤3:=fun s hs=>zq5 (List.all_eq_true.1 h'.2 s hs)
 constructor
 ·unfold zea
  have e:(r.fVals.head?).getD []=zeB r 0:=by unfold zeB;rw [List.head?_eq_getElem?];rfl
  simp only [e,List.length_append,List.length_singleton]
  omega
 ·have h1:=ztL r.fVals.tail [44]
  have h2:=zp4 (k:=3) (xs:=r.fVals.tail) fun s hs=>hall s (List.mem_of_mem_tail hs)
  have h3:r.fVals.tail.length≤3:=by rw [List.length_tail];omega
  rw [List.length_singleton]at h1
  show(Lib.join r.fVals.tail [44]).length≤20
  omega
theorem zz5 {t:zab} {n:Str} {c:Int} {r:zbE} (hg:zad t=true) (hn:n.length=1) (h:zaq t r=true):(zdn t n c r).length≤11:=by
 have h1:=zgJ (zfd hg)
 have h2:=zvZ h c
 have h3:=zvZ h 0
 unfold zdn head
 simp only [List.length_append,List.length_singleton]
 omega
theorem zwM {α β:Type} {P:β→Prop} {f:α→List β}: ∀(xs:List α) (a:List β),(∀x∈xs,∀o∈f x,P o)→(∀o∈a,P o)→ ∀o∈xs.foldl (fun a x=>a++f x) a,P o
 | [],a,_,h=>h
 |x::xs,a,hf,h=>zwM xs (a++f x) (fun y hy=>hf y (by simp [hy])) fun o ho=>by
  rcases List.mem_append.1 ho with ho|ho
  ·exact h o ho
  ·exact hf x (by simp) o ho
theorem zuU {α β:Type} {f:α→List β} (hf: ∀x,(f x).length≤2): ∀(xs:List α) (a:List β),(xs.foldl (fun a x=>a++f x) a).length≤a.length+2*xs.length
 | [],a=>by simp
 |x::xs,a=>by
  have h1:=zuU hf xs (a++f x)
  have h2:=hf x
  rw [List.length_append]at h1
  rw [List.foldl_cons,List.length_cons]
  omega
def zB0 (s:Str):Prop:= ∀b∈s,(ze2 b||([46,47]:Str).contains b)=true
def zFr (s:Str):Prop:= ∀b∈s,(ze2 b||([46,45,44,95]:Str).contains b)=true
theorem zy2 {s:Str} (h:field s=true): ∀b∈s,ze2 b=true:=by
 unfold field zhU at h
 simp only [Bool.and_eq_true]at h
 intro b hb
 have:=List.all_eq_true.1 h.2 b hb
 simpa using this
theorem zgt {s:Str} {k:Int} (h:za8 s k=true): ∀b∈s,ze2 b=true:=by
 unfold za8 at h
 simp only [Bool.and_eq_true]at h
 intro b hb
 have:=List.all_eq_true.1 h.1 b hb
 unfold small at this
 unfold ze2
 simp only [Bool.not_eq_true',Bool.or_eq_false_iff,decide_eq_false_iff_not]at this
 simp only [Bool.or_eq_true,Bool.and_eq_true,decide_eq_true_eq]
 left
 omega
theorem zhK {s:Str} (h: ∀b∈s,ze2 b=true):zB0 s:=fun b hb=>by rw [h b hb];rfl
theorem zB0.app {s u:Str} (h:zB0 s) (k:zB0 u):zB0 (s++u):=fun b hb=>by
 rcases List.mem_append.1 hb with hb|hb
 ·exact h b hb
 ·exact k b hb
theorem zFo:zB0 [46]:=fun b hb=>by rw [List.mem_singleton]at hb;subst hb;decide
theorem zCs:zB0 [47]:=fun b hb=>by rw [List.mem_singleton]at hb;subst hb;decide
theorem zsd {s:Str} (h1:1≤s.length) (h2:s.length≤12) (h:zB0 s):goodKey s=true:=by
 unfold goodKey zhU
 rw [za3.2 ⟨by omega,by omega⟩,List.all_eq_true.2 h]
 rfl
theorem zxk {s:Str} (h2:s.length≤24) (h:zFr s):zgf s=true:=by
 unfold zgf zhU
 rw [show decide ((s.length:Int)≤24)=true by simp;omega,List.all_eq_true.2 h]
 rfl
theorem zA1 {xs:List Str} (h: ∀x∈xs,∀b∈x,ze2 b=true):zFr (Lib.join xs [44]):=by
 cases xs with
 |nil=>intro b hb;simp [Lib.join_nil]at hb
 |cons x r=>
  intro b hb
  rw [Lib.join_cons]at hb
  rcases List.mem_append.1 hb with hb|hb
  ·rw [h x (by simp) b hb];rfl
  ·unfold Lib.joinTail at hb
   obtain⟨l,hl,hbl⟩:=List.mem_flatten.1 hb
   obtain⟨y,hy,rfl⟩:=List.mem_map.1 hl
   rcases List.mem_append.1 hbl with hb|hb
   ·rw [List.mem_singleton]at hb;subst hb;decide
   ·rw [h y (by simp [hy]) b hb];rfl
theorem zoe {t:zab} {r:zbE} (h:zaq t r=true): ∀x∈r.fVals,∀b∈x,ze2 b=true:=by
 unfold zaq at h
 simp only [Bool.and_eq_true]at h
 exact fun x hx=>zy2 (List.all_eq_true.1 h.2 x hx)
theorem znU {t:zab} {r:zbE} (h:zaq t r=true) (c:Int): ∀b∈zeB r c,ze2 b=true:=by
 unfold zeB
 cases e:r.fVals[c.toNat]? with
 |none=>simp
 |some s=>exact zoe h s (List.mem_of_getElem? e)
theorem zmI {t:zab} {r:zbE} (hg:zad t=true) (h:zaq t r=true):goodKey (zea t r).fKey=true∧zgf (zea t r).fVal=true:=by
 have hl:=zA3 hg h
 have e:(zea t r).fKey=t.fName++ [47]++zeB r 0:=by
  unfold zea zeB
  rw [List.head?_eq_getElem?]
  rfl
 refine⟨zsd ?_ (by omega) ?_,zxk (by omega) ?_⟩
 ·rw [e];simp;omega
 ·rw [e]
  exact((zhK (zgt (zfd hg))).app zCs).app (zhK (znU h 0))
 ·exact zA1 fun x hx=>zoe h x (List.mem_of_mem_tail hx)
theorem zoo {t:zab} {n:Str} {c:Int} {r:zbE} (hg:zad t=true) (hn:za8 n 1=true) (h:zaq t r=true):goodKey (zdn t n c r)=true:=by
 have hl:=zz5 (c:=c) hg (zgJ hn) h
 refine zsd ?_ (by omega) ?_
 ·unfold zdn;simp;omega
 ·unfold zdn head
  exact((((((zhK (zgt (zfd hg))).app zFo).app (zhK (zgt hn))).app zCs).app (zhK (znU h c))).app zCs).app (zhK (znU h 0))
end Go.Proofs.YtbmbkgalkfmjdaaGreatDoor
end
section
namespace Go.Proofs.YtbmbkgalkfmjdaaGreatDoor
open Go.RowKit
set_option maxRecDepth 100000
theorem zww {t:zab} {a:zaj} (hg:zad t=true) (h:zdm t a=true):(ziP t a).length≤8∧ ∀o∈ziP t a,OkO o:=by
 have ho:a.fKind≠1→zaq t a.fOld=true:=fun h1=>by
  unfold zdm at h
  rw [if_neg h1]at h
  by_cases h2:a.fKind=2
  ·rw [if_pos h2,Bool.and_eq_true]at h;exact h.1
  rw [if_neg h2]at h
  by_cases h3:a.fKind=3
  ·rw [if_pos h3,Bool.and_eq_true]at h;exact h.1
  rw [if_neg h3]at h;cases h
 have hn:a.fKind≠2→zaq t a.fNew=true:=fun h2=>by
  unfold zdm at h
  by_cases h1:a.fKind=1
  ·rw [if_pos h1,Bool.and_eq_true]at h;exact h.2
  rw [if_neg h1,if_neg h2]at h
  by_cases h3:a.fKind=3
  ·rw [if_pos h3,Bool.and_eq_true,Bool.and_eq_true]at h;exact h.2.1
  rw [if_neg h3]at h;cases h
 have hc:=zgT hg
 have v0:zgf ([]:Str)=true:=by decide
 constructor
 ·have h1:=zuU (zsu t a) t.fIdxs (zjP t a)
  rw [zql]at h1
  unfold ziP
  omega
 ·refine zwM _ _ (fun x hx o hm=> ?_) (fun o hm=> ?_)
  ·have hx1:=(zdT hg hx).1
   unfold zh9 zoA zs0 at hm
   rcases List.mem_append.1 hm with hm|hm
   ·split at hm
    ·rename_i q
     rw [List.mem_singleton]at hm
     subst hm
     refine⟨?_,v0,rfl,by simp,fun _=>rfl⟩
     show goodKey (zsq t a x)=true
     unfold zsq at q ⊢
     by_cases h1:a.fKind=1
     ·rw [if_pos h1]at q;exact absurd rfl q.1
     ·rw [if_neg h1];exact zoo hg hx1 (ho h1)
    ·simp at hm
   ·split at hm
    ·rename_i q
     rw [List.mem_singleton]at hm
     subst hm
     refine⟨?_,v0,rfl,by simp,fun _=>rfl⟩
     show goodKey (zpM t a x)=true
     unfold zpM at q ⊢
     by_cases h1:a.fKind=2
     ·rw [if_pos h1]at q;exact absurd rfl q.1
     ·rw [if_neg h1];exact zoo hg hx1 (hn h1)
    ·simp at hm
  ·unfold zjP at hm
   split at hm
   ·rename_i q
    have w:=zmI hg (hn (by omega))
    simp only [List.mem_cons,List.not_mem_nil,or_false]at hm
    rcases hm with rfl|rfl
    ·exact⟨w.1,v0,rfl,by simp,fun _=>rfl⟩
    ·exact⟨w.1,w.2,rfl,by simp,fun k=>by simp at k⟩
   ·rename_i q1
    have w1:=zmI hg (ho q1)
    split at hm
    ·simp only [List.mem_cons,List.not_mem_nil,or_false]at hm
     rcases hm with rfl|rfl
     ·exact⟨w1.1,w1.2,rfl,by simp,fun k=>by simp at k⟩
     ·exact⟨w1.1,v0,rfl,by simp,fun _=>rfl⟩
    ·rename_i q2
     have w2:=zmI hg (hn q2)
     simp only [List.mem_cons,List.not_mem_nil,or_false]at hm
     rcases hm with rfl|rfl
     ·exact⟨w1.1,w1.2,rfl,by simp,fun k=>by simp at k⟩
     ·exact⟨w1.1,w2.2,rfl,by simp,fun k=>by simp at k⟩
theorem zkx {l:List zaa} (h:zbT l=true):zsz l∧ ∀w∈l,w.fGone=false:=by
 unfold zbT at h
 rw [Bool.and_eq_true]at h
 have hr:=zpV h.1
 have h1:=h.1
 unfold zeO at h1
 simp only [Bool.and_eq_true,decide_eq_true_eq]at h1
 exact⟨⟨hr,by omega,List.all_eq_true.1 h1.2.1⟩,fun w hw=>by simpa using List.all_eq_true.1 h.2 w hw⟩
theorem zvA {l:List zaa} (hr:zfB l) (hg: ∀w∈l,zhc w=true) (hn: ∀w∈l,w.fGone=false):zbT l=decide ((l.length:Int)≤24):=by
 have h1:znz (l.map (·.fKey))=true:=by
  rw [zms,zk4]
  exact(znd (r:=fun a b:zaa=>bl a.fKey b.fKey) fun a b c p q=>zfn p q).2 hr
 unfold zbT zeO
 rw [h1,List.all_eq_true.2 hg,show(l.all fun w=> !w.fGone)=true from List.all_eq_true.2 fun w hw=>by rw [hn w hw];rfl]
 simp
theorem ztD {l:List zaa} (hl:l.length≤2000000) (hg: ∀w∈l,zhc w=true):zmR l:=
 ⟨hl,fun w hw=>⟨by have:=zuD (hg w hw);omega,by have:=zm5 (hg w hw);omega⟩⟩
def zhv (rows ws:List zaa):List zaa:=(ws.foldl (fun o w=>zgA wk w o) rows).filter fun w=> !w.fGone
theorem zzT: ∀(ws:List zaa) {n:Nat} {rows:List zaa},zqc n rows→(∀w∈ws,zhc w=true)→zqc (n+ws.length) (ws.foldl (fun o w=>zgA wk w o) rows)
 | [],n,rows,h,_=>h
 |w::ws,n,rows,h,hw=>by
  have:=zzT ws (zhD h (hw w (by simp))) fun y hy=>hw y (by simp [hy])
  exact⟨this.rise,by have:=this.len;rw [List.length_cons];rw [List.foldl_cons];omega,this.good⟩
theorem zy9 {rows ws:List zaa} (hr:zsz rows) (hw:zqc 8 ws):zfB (zhv rows ws)∧(zhv rows ws).length≤32∧(∀w∈zhv rows ws,zhc w=true)∧ ∀w∈zhv rows ws,w.fGone=false:=by
 have h:=zzT ws (n:=24) (rows:=rows) ⟨hr.rise,hr.len,hr.good⟩ hw.good
 have hl:=hw.len
 unfold zhv
 refine⟨zow.filter h.rise _,Nat.le_trans (List.length_filter_le _ _) (by have:=h.len;omega),fun w hm=>h.good w (List.mem_filter.1 hm).1,fun w hm=>by simpa using(List.mem_filter.1 hm).2⟩
theorem zxa {rows ws:List zaa} (hr:zsz rows) (hw:zqc 8 ws):zg0 rows ws=some (if(zhv rows ws).length>24 then([],false)else(zhv rows ws,true)):=by
 have hrl:=hr.len
 have hwl:=hw.len
 have hc:zaF rows=some rows:=zlh (by omega) (by omega)
 unfold zg0
 rw [hc,Option.bind_some]
 have h1:=zdx (xs:=ws) (body:=fun s:Int × List zaa=>zcQ ws s.1 s.2) (fun i (o:List zaa)=>(i,o)) (fun o w=>zgA wk w o) (fun o=>zgM o) (fun i o=>zqc (24+i) o)
  (fun i hi o hI=>by
   have hI:zqc (24+i) o:=hI
   have hol:=hI.len
   refine⟨?_,zhD hI (hw.good _ (List.getElem_mem hi))⟩
   show zcQ ws i o=_
   unfold zcQ
   rw [if_pos (by simpa using hi),zam hi,Option.bind_some,zoj (by omega) hI.rise,Option.bind_some,zd5 hi (by omega)])
  (fun o hI=>by
   show zcQ ws ws.length o=_
   unfold zcQ
   rw [if_neg (by simp)]) (s:=rows) ⟨hr.rise,hr.len,hr.good⟩
 rw [h1.1]
 have hK:zqc (24+ws.length) (ws.foldl (fun o w=>zgA wk w o) rows):=h1.2
 have hkl:=hK.len
 unfold zgM zdM
 rw [zai (by omega),zn1 (p:=fun y0_=>zhl y0_) (fun w:zaa=>w.fGone) (fun w _=>rfl),Option.bind_some]
 show(if decide (((zhv rows ws).length:Int)>24)=true then _ else _)=_
 by_cases hq:(zhv rows ws).length>24
 ·rw [if_pos (decide_eq_true (by omega)),if_pos hq]
 ·rw [if_neg (by rw [decide_eq_true_eq];omega),if_neg hq];rfl
def ziu (st:List zaa) (ops:List DOp):List zaa × Bool:=if(zqA st ops).2=true∧(zhv st (zqA st ops).1).length≤24 then(zhv st (zqA st ops).1,true)else(st,false)
theorem zzR {st:List zaa} {ops:List DOp} (hl:ops.length≤8) (ho: ∀o∈ops,OkO o) (hg:zbT st=true):zeU st ops=some (ziu st ops):=by
 obtain⟨hr,_⟩:=zkx hg
 obtain⟨⟨g,e⟩,_,hw⟩:=zye hl ho hr
 have hrl:=hr.len
 have hq:((([]:List zaa).length:Int)+((st).length:Int))*40≤140737488355328∧(([]:List zaa).length:Int)+((st).length:Int)≤140737488355328:=by
  rw [List.length_nil];omega
 unfold zeU ziu
 rw [e,Option.bind_some,zxa hr hw,Option.bind_some]
 cases h1:(zqA st ops).2 with
 |false=>rw [if_pos (by simp),zai hq,if_neg (by simp)]
 |true=>
  by_cases h2:(zhv st (zqA st ops).1).length>24
  ·rw [if_pos h2,if_pos (by simp),zai hq,if_neg (by omega)]
  ·rw [if_neg h2,if_neg (by simp),if_pos ⟨rfl,by omega⟩]
theorem zBr {st:List zaa} {ops:List DOp} (hl:ops.length≤8) (ho: ∀o∈ops,OkO o) (hg:zbT st=true):zbT (ziu st ops).1=true:=by
 obtain⟨hr,_⟩:=zkx hg
 obtain⟨_,_,hw⟩:=zye hl ho hr
 obtain⟨p1,p2,p3,p4⟩:=zy9 hr hw
 unfold ziu
 split
 ·rename_i h
  show zbT (zhv st (zqA st ops).1)=true
  rw [zvA p1 p3 p4]
  have:=h.2
  simp;omega
 ·exact hg
end Go.Proofs.YtbmbkgalkfmjdaaGreatDoor
end
section
namespace Go.Proofs.YtbmbkgalkfmjdaaGreatDoor
open Go.RowKit
set_option maxRecDepth 100000
theorem zk2 {c:UInt8}: ∀{p q:Str},(∀b∈p,b≠c)→za4 c (p++ [c]++q)=p::za4 c q:=fun{p q} h=>by
 rw [List.append_assoc];exact zha h
theorem zp7 {b:UInt8} (h:ze2 b=true):b≠47∧b≠44∧b≠46:=by
 refine⟨?_, ?_, ?_⟩<;>(rintro rfl;revert h;decide)
theorem zCi {t:zab} {n:Str} (hg:zad t=true) (hn:za8 n 1=true): ∀b∈head t n,b≠47:=by
 intro b hb
 unfold head at hb
 simp only [List.mem_append,List.mem_singleton]at hb
 rcases hb with(hb|hb)|hb
 ·exact(zp7 (zgt (zfd hg) b hb)).1
 ·subst hb;decide
 ·exact(zp7 (zgt hn b hb)).1
theorem zi6 {t:zab} {n:Str} {c:Int} {r:zbE} (hg:zad t=true) (hn:za8 n 1=true) (h:zaq t r=true):za4 47 (zdn t n c r)= [head t n,zeB r c,zeB r 0]:=by
 unfold zdn
 rw [show head t n++ [47]++zeB r c++ [47]++zeB r 0=head t n++ [47]++(zeB r c++ [47]++zeB r 0) by simp,zk2 (zCi hg hn),zk2 fun b hb=>(zp7 (znU h c b hb)).1,zdO fun b hb=>(zp7 (znU h 0 b hb)).1]
theorem zeE (t:zab) (r:zbE):(zea t r).fKey=t.fName++ [47]++zeB r 0:=by
 unfold zea zeB
 rw [List.head?_eq_getElem?]
 rfl
theorem zul {t:zab} {r:zbE} (hg:zad t=true) (h:zaq t r=true):za4 47 (zea t r).fKey= [t.fName,zeB r 0]:=by
 rw [zeE,zk2 fun b hb=>(zp7 (zgt (zfd hg) b hb)).1,zdO fun b hb=>(zp7 (znU h 0 b hb)).1]
theorem zx1 {t:zab} {n:Str} {r:zbE} (hg:zad t=true) (h:zaq t r=true):zbO t n (zea t r).fKey=false:=by
 unfold zbO
 rw [zul hg h]
theorem zuF {t:zab} {r:zbE} {c:Int} (h:zaq t r=true) (h0:0≤c) (h1:c≤(t.fCols.length:Int)-1):field (zeB r c)=true:=by
 unfold zaq at h
 simp only [Bool.and_eq_true,beq_iff_eq]at h
 have hl:c.toNat<r.fVals.length:=by have:=h.1;omega
 unfold zeB
 rw [List.getElem?_eq_getElem hl]
 exact List.all_eq_true.1 h.2 _ (List.getElem_mem hl)
theorem zm3 {t:zab} {n m:Str} {c:Int} {r:zbE} (hg:zad t=true) (hm:za8 m 1=true) (h:zaq t r=true) (h0:0≤c) (h1:c≤(t.fCols.length:Int)-1):zbO t n (zdn t m c r)=decide (m=n):=by
 have hc:=zgT hg
 unfold zbO
 rw [zi6 hg hm h]
 simp only [zuF h h0 h1,zuF h (show(0:Int)≤0 by omega) (by omega),Bool.and_true]
 rw [Bool.eq_iff_iff]
 simp only [beq_iff_eq,decide_eq_true_eq]
 unfold head
 constructor
 ·intro e;exact List.append_cancel_left e
 ·rintro rfl;rfl
theorem zvY {t:zab} {n:Str} {c:Int} {r r':zbE} (hg:zad t=true) (hn:za8 n 1=true) (h:zaq t r=true) (h':zaq t r'=true) (e:zdn t n c r=zdn t n c r'):zeB r 0=zeB r' 0:=by
 have h1:=zi6 (c:=c) hg hn h
 rw [e,zi6 hg hn h']at h1
 simp only [List.cons.injEq,and_true]at h1
 exact h1.2.2.symm
theorem zjf {t:zab} {n:Str} {c:Int} {r r':zbE} (hg:zad t=true) (hn:za8 n 1=true) (h:zaq t r=true) (h':zaq t r'=true):(zea t r).fKey≠zdn t n c r':=by
 intro e
 have h1:=zul hg h
 rw [e,zi6 hg hn h']at h1
 simp at h1
theorem zxt {xs:List Str} (hx:xs≠ []) (h: ∀x∈xs,∀b∈x,b≠44):za4 44 (Lib.join xs [44])=xs:=by
 induction xs with
 |nil=>exact absurd rfl hx
 |cons x r ih=>
  cases r with
  |nil=>rw [Lib.join_one,zdO (h x (by simp))]
  |cons y r=>
   have e:Lib.join (x::y::r) [44]=x++ [44]++Lib.join (y::r) [44]:=by
    rw [Lib.join_cons,Lib.join_cons]
    simp [Lib.joinTail]
   rw [e,zk2 (h x (by simp)),ih (by simp) fun z hz=>h z (by simp [hz])]
theorem zmX {t:zab} {r:zbE} (hg:zad t=true) (h:zaq t r=true):zd1 (zea t r)=r:=by
 have hc:=zgT hg
 have hn:=zgJ (zfd hg)
 have hl:=h
 unfold zaq at hl
 simp only [Bool.and_eq_true,beq_iff_eq]at hl
 have hf:=zoe h
 obtain⟨vs⟩:=r
 cases vs with
 |nil=>simp at hl;omega
 |cons v vs=>
  have hne:vs≠ []:=by rintro rfl;simp at hl;omega
  unfold zd1 zea
  simp only [List.head?_cons,Option.getD_some,List.tail_cons]
  rw [zxt hne fun x hx b hb=>(zp7 (hf x (by simp [hx]) b hb)).2.1]
  congr 1
  congr 1
  have:(t.fName++ [47]++v).drop 2=v:=by
   rw [List.drop_append_of_le_length (by simp [hn])]
   rw [List.drop_of_length_le (by simp [hn])]
   rfl
  exact this
theorem zzZ {t:zab} {r:zbE} (hg:zad t=true) (h:zaq t r=true):zbj t (zea t r)=true:=by
 unfold zbj
 rw [zmX hg h,h]
 unfold zpR
 simp
theorem zjj {t:zab} {w:zaa} (h:zbj t w=true):zaq t (zd1 w)=true∧w=zea t (zd1 w):=by
 unfold zbj zpR at h
 simp only [Bool.and_eq_true,beq_iff_eq]at h
 obtain⟨h1,h2,h3,h4⟩:=h
 refine⟨h1, ?_⟩
 cases w
 cases hq:zea t (zd1 _)
 rename_i a b c d e f
 rw [hq]at h2 h3 h4
 simp only at h2 h3 h4
 rw [h2,h3,h4]
def zno (t:zab) (a:zaj):List zaa:=
 if a.fKind=1 then [⟨(zea t a.fNew).fKey,(zea t a.fNew).fVal,false⟩]else
 if a.fKind=2 then [⟨(zea t a.fOld).fKey, [],true⟩]else [⟨(zea t a.fOld).fKey,(zea t a.fNew).fVal,false⟩]
def zlX (t:zab) (a:zaj) (x:zbs):List zaa:=
 (if zsq t a x≠ []∧zsq t a x≠zpM t a x∧x.fStage≥1 then [⟨zsq t a x, [],true⟩]else [])++(if zpM t a x≠ []∧x.fStage≥2 then [⟨zpM t a x, [],false⟩]else [])
def zhj (t:zab) (a:zaj):List zaa:=zno t a++t.fIdxs.flatMap (zlX t a)
def zt3 (t:zab) (a:zaj) (st st':List zaa):Prop:=
 ∀y,y∈st'↔y.fGone=false∧(y∈zhj t a∨y∈st∧ ∀w∈zhj t a,w.fKey≠y.fKey)
def zBu (t:zab) (a:zaj) (st:List zaa):Prop:=
 (a.fKind=1→ ∀w∈st,w.fKey≠(zea t a.fNew).fKey)∧(a.fKind≠1→zea t a.fOld∈st)
end Go.Proofs.YtbmbkgalkfmjdaaGreatDoor
end
section
namespace Go.Proofs.YtbmbkgalkfmjdaaGreatDoor
open Go.RowKit
set_option maxRecDepth 100000
theorem zeA {t:zab} (h:zad t=true):zcH t:=by
 have hn:=(zgE (zfd h)).1
 have h0:=h
 unfold zad at h
 simp only [Bool.and_eq_true,decide_eq_true_eq]at h
 have hl:=za3.1 h.1.1.2.2
 have hc:=h.1.1.2.1
 refine⟨by omega,by omega,fun c hm=> ?_,by omega,fun x hx=> ?_⟩
 ·obtain⟨i,hi,rfl⟩:=List.mem_iff_getElem.1 hm
  unfold zlT at hc
  have:=List.all_eq_true.1 hc i (List.mem_range.2 hi)
  unfold ztR at this
  rw [List.getElem?_eq_getElem hi]at this
  simp only [Option.getD_some,Bool.and_eq_true]at this
  have:=(zgE this.1).1
  omega
 ·have:=(zgE (zdT h0 hx).1).1
  omega
structure zkn (l:List Str):Prop where
 len:l.length≤10
 each: ∀s∈l,s.length≤10
theorem zkn.small {l:List Str} (h:zkn l):Small l:=⟨by have:=h.len;omega,by
 have h1:=zp4 h.each
 have h2:=h.len
 have h3:10*l.length≤100:=by omega
 omega⟩
theorem zfH {t:zab} {r:zbE} (hg:zad t=true) (h:zaq t r=true):zkn r.fVals∧2≤r.fVals.length:=by
 have hc2:=zgT hg
 have h4:t.fCols.length≤4:=by
  have:=hg
  unfold zad at this
  simp only [Bool.and_eq_true,decide_eq_true_eq]at this
  have:=za3.1 this.1.1.2.2
  omega
 unfold zaq at h
 rw [Bool.and_eq_true,beq_iff_eq]at h
 exact⟨⟨by omega,fun s hs=>by have:=zq5 (List.all_eq_true.1 h.2 s hs);omega⟩,by omega⟩
theorem ztx {k v:Str} (h1:goodKey k=true) (h2:zgf v=true):zhc ⟨k,v,false⟩=true:=by
 unfold zhc zkM
 rw [h1,h2];rfl
theorem zxQ {t:zab} {r:zbE} (hg:zad t=true) (h:zaq t r=true):zrW t r:=⟨by
 have h1:=h
 unfold zaq at h1
 rw [Bool.and_eq_true,beq_iff_eq]at h1
 omega,(zfH hg h).1.small⟩
theorem zsj {t:zab} {l:List zaa} {r:zbE} (h:r∈rows t l):zaq t r=true:=by
 unfold rows at h
 obtain⟨w,hw,rfl⟩:=List.mem_map.1 h
 exact(zjj (List.mem_filter.1 hw).2).1
theorem zpK {t:zab} {x:zbs} {r:zbE} (hg:zad t=true) (hx:x∈t.fIdxs) (hr:zaq t r=true):zbA t x r=some (zdn t x.fName x.fCol r)∧zhc ⟨zdn t x.fName x.fCol r, [],false⟩=true:=by
 have hS:=zeA hg
 exact⟨zwF hS.name (hS.idx x hx) (zsQ hg hx) (zxQ hg hr),ztx (zoo hg (zdT hg hx).1 hr) (by decide)⟩
theorem zon {w:zaa} (h:zhc w=true):zkR w:=⟨by have:=zuD h;omega,by have:=zm5 h;omega⟩
end Go.Proofs.YtbmbkgalkfmjdaaGreatDoor
end
section
namespace Go.Proofs.YtbmbkgalkfmjdaaGreatDoor
open Go.RowKit
set_option maxRecDepth 100000
theorem zpa [Inhabited zgz] {c:zaf} {k:Int} (l:List Str) (hl:l≠ []) (h:okC c k) (hk:k≤4611686018427387000):zb3 (zax c l) fun p=>p.1∈l∧okC p.2 (k+2):=by
 unfold zax
 have hpos:0<l.length:=List.length_pos_iff.2 hl
 refine(zbz l.length h hk).bind fun p ⟨hp,hc⟩=> ?_
 exact zb3.bind (P:=fun y=>y∈l) (.getI hp.1 (hp.2.1 (by omega)) fun x hx=>hx) fun y hy=> .ret ⟨hy,hc⟩
def nmI:List Str:= [[105], [106], [109]]
structure zDZ (w:Int) (x:zbs):Prop where
 c1:1≤x.fCol
 c2:x.fCol≤w
 s0:0≤x.fStage
 s3:x.fStage≤3
structure TI (w:Int) (q:Nat) (l:List zbs):Prop where
 x: ∀x∈l,zDZ w x
 nm: ∀x∈l,x.fName∈nmI.take q
 up:l.Pairwise fun a b=>Op.bytesLess a.fName b.fName=true
 len:l.length≤q
theorem zDc: ∀{q:Nat},q<3→ ∀a∈nmI.take q,Op.bytesLess a ((nmI[q]?).getD [])=true:=by
 intro q hq
 have:q=0∨q=1∨q=2:=by omega
 rcases this with rfl|rfl|rfl<;>decide
theorem zyl {q:Nat} {a:Str} (h:a∈nmI.take q):a∈nmI.take (q+1):=by
 rw [List.take_add_one]
 exact List.mem_append.2 (.inl h)
theorem TI.add {w:Int} {q:Nat} {l:List zbs} {x:zbs} (h:TI w q l) (hq:q<3) (hx:zDZ w x) (hn:x.fName=(nmI[q]?).getD []):TI w (q+1) (l++ [x]):=by
 refine⟨fun y hy=> ?_,fun y hy=> ?_, ?_, ?_⟩
 ·rcases List.mem_append.1 hy with hy|hy
  ·exact h.x y hy
  ·rw [List.mem_singleton.1 hy];exact hx
 ·rcases List.mem_append.1 hy with hy|hy
  ·exact zyl (h.nm y hy)
  ·rw [List.mem_singleton.1 hy,hn,List.take_add_one]
   refine List.mem_append.2 (.inr ?_)
   have:q<nmI.length:=hq
   rw [List.getElem?_eq_getElem this];simp
 ·refine List.pairwise_append.2 ⟨h.up,List.pairwise_singleton _ _,fun a ha b hb=> ?_⟩
  rw [List.mem_singleton.1 hb,hn]
  exact zDc hq _ (h.nm a ha)
 ·have:=h.len
  rw [List.length_append,List.length_singleton];omega
theorem TI.more {w:Int} {q:Nat} {l:List zbs} (h:TI w q l):TI w (q+1) l:=⟨h.x,fun y hy=>zyl (h.nm y hy),h.up,by have:=h.len;omega⟩
theorem zxq {nm:Str} {cs:List Str} {l:List zbs} (hn:nm∈([[116], [117]]:List Str)) (hc:zlT cs=true) (h2:2≤cs.length) (h4:cs.length≤4) (h:TI ((cs.length:Int)-1) 3 l):zad ⟨nm,cs,l⟩=true:=by
 unfold zad
 have e1:za8 nm 1=true:=by
  simp only [List.mem_cons,List.not_mem_nil,or_false]at hn
  rcases hn with rfl|rfl<;>decide
 have hl:=h.len
 simp only [e1,hc,Bool.true_and,Bool.and_eq_true,decide_eq_true_eq]
 refine⟨⟨za3.2 ⟨by omega,by omega⟩,by omega⟩,List.all_eq_true.2 fun i hi=> ?_⟩
 have hi:=List.mem_range.1 hi
 unfold zl3
 have ex:(l[i]?).getD ⟨[],0,0⟩=l[i]:=by rw [List.getElem?_eq_getElem hi];rfl
 dsimp only
 rw [ex]
 have hm:=List.getElem_mem hi
 have hx:=h.x _ hm
 have hname:za8 l[i].fName 1=true:=by
  have:=h.nm _ hm
  have e:nmI.take 3=nmI:=rfl
  rw [e]at this
  unfold nmI at this
  simp only [List.mem_cons,List.not_mem_nil,or_false]at this
  rcases this with e|e|e<;>rw [e]<;>decide
 rw [hname,za3.2 ⟨hx.c1,hx.c2⟩,za3.2 ⟨hx.s0,hx.s3⟩]
 simp only [Bool.true_and,Bool.or_eq_true,beq_iff_eq]
 by_cases h0:i=0
 ·exact .inl h0
 ·refine .inr ?_
  have hp:i-1<l.length:=by omega
  have ep:(l[i-1]?).getD ⟨[],0,0⟩=l[i-1]:=by rw [List.getElem?_eq_getElem hp];rfl
  rw [ep]
  exact(List.pairwise_iff_getElem.1 h.up) (i-1) i hp hi (by omega)
def zBc:List Str:= [[107], [97], [98], [99,99]]
theorem zuR {p:Int} (h0:0≤p) (h3:p<3):zlT (zez zBc 0 (IntKind.i64.wrap (2+p)))=true∧(((zez zBc 0 (IntKind.i64.wrap (2+p))).length:Nat):Int)=2+p:=by
 rw [zaJ (by omega) (by omega)]
 have:p=0∨p=1∨p=2:=by omega
 rcases this with rfl|rfl|rfl<;>exact⟨by decide,by decide⟩
theorem zmn [Inhabited zgz] {v2:Int × zaf} {q:Nat} {l:List zbs} {y:Str} {a:List Int} {b e k:Int} {t:Bool} (h0:0≤v2.1) (h3:v2.1<3) (hq:q<3) (hy:y=(nmI[q]?).getD []) (hl:TI (1+v2.1) q l) (hc:okC ⟨a,b,e⟩ k) (hk:k≤4611686018427380000):
  zb3 (zbH v2 q l y a b e t) fun o=> ∃(c:zaf) (l':List zbs),o= .inl (((q+1:Nat):Int),c.fcode,c.fat,c.fseed,l')∧TI (1+v2.1) (q+1) l'∧okC c (k+4):=by
 unfold zbH
 have hw:=(zuR h0 h3).2
 unfold zBc at hw
 have w1:IntKind.i64.wrap ((q:Int)+1)=((q+1:Nat):Int):=by rw [zaJ (by omega) (by omega)];omega
 refine .ite (fun _=> ?_) fun _=> .ret ⟨⟨a,b,e⟩,l,by rw [w1],hl.more,hc.up (by omega)⟩
 rw [hw,zaJ (n:=2+v2.1-1) (by omega) (by omega)]
 refine(zbz _ hc (by omega)).bind fun p ⟨hp,hc1⟩=>(zbz 4 hc1 (by omega)).bind fun r ⟨hr,hc2⟩=> ?_
 have p2:=hp.2.1 (by omega)
 have r2:=hr.2.1 (by omega)
 have hlen:=hl.len
 refine .req (by simp;omega) (.ret ⟨r.2,_,by rw [w1],hl.add hq ⟨?_, ?_,hr.1,by dsimp only;omega⟩ hy,hc2.up (by omega)⟩)
 ·dsimp only;rw [zaJ (by omega) (by omega)];omega
 ·dsimp only;rw [zaJ (by omega) (by omega)];omega
theorem zwk [Inhabited zgz] {c:zaf} {k:Int} (h:okC c k) (hk:k≤4611686018427370000):zb3 (zcm c) fun p=>zad p.1=true∧okC p.2 (k+40):=by
 unfold zcm
 refine(zpa _ (by simp) h (by omega)).bind fun n ⟨hn,hc⟩=>(zbz 3 hc (by omega)).bind fun p ⟨hp,hd⟩=> ?_
 have p2:=hp.2.1 (by omega)
 obtain⟨hw1,hw2⟩:=zuR hp.1 p2
 unfold zBc at hw1 hw2
 have w1:IntKind.i64.wrap (2+p.1)=2+p.1:=zaJ (by omega) (by omega)
 refine .req ⟨by omega,by rw [w1];omega,by rw [w1];simp;omega⟩ (.req (by rw [hw2];simp;omega) ?_)
 refine zhI (fun m s=> ∃q:Nat,s.1=(q:Int)∧q+m=3∧TI (1+p.1) q s.2.2.2.2∧okC ⟨s.2.1,s.2.2.1,s.2.2.2.1⟩ (k+4+8*q)) (fun m s hI=> ?_) (n:=3) ⟨0,rfl,rfl,⟨by simp,by simp, .nil,by simp⟩,by simpa using hd.up (by omega)⟩
 obtain⟨q,e1,e2,hT,ho⟩:=hI
 obtain⟨s1,a,b,e,l⟩:=s
 dsimp only at e1 hT ho ⊢
 subst e1
 unfold zfJ
 have ec:(([([105]:List UInt8),([106]:List UInt8),([109]:List UInt8)]:List (List UInt8)).length:Int)=3:=rfl
 rw [ec]
 refine .ite (fun hlt=> ?_) fun hge=> ?_
 ·simp only [decide_eq_true_eq]at hlt
  have hq:q<3:=by omega
  have eg:getI [([105]:List UInt8),([106]:List UInt8),([109]:List UInt8)] (q:Int)=some ((nmI[q]?).getD []):=by
   have:q=0∨q=1∨q=2:=by omega
   rcases this with rfl|rfl|rfl<;>rfl
  rw [eg,Option.bind_some]
  refine(zlJ 3 ho (by omega)).bind fun x hx=> .ite (fun _=> ?_) fun _=> .ite (fun _=> ?_) fun _=> ?_
  ·exact(zmn hp.1 p2 hq rfl hT hx (by omega)).mono fun o ho=>by
    obtain⟨c',l',rfl,ht,hc'⟩:=ho
    exact⟨m-1,by omega,q+1,rfl,by omega,ht,hc'.up (by omega)⟩
  ·refine(zlJ 8 hx (by omega)).bind fun z hz=> ?_
   exact(zmn hp.1 p2 hq rfl hT hz (by omega)).mono fun o ho=>by
    obtain⟨c',l',rfl,ht,hc'⟩:=ho
    exact⟨m-1,by omega,q+1,rfl,by omega,ht,hc'.up (by omega)⟩
  ·exact(zmn hp.1 p2 hq rfl hT hx (by omega)).mono fun o ho=>by
    obtain⟨c',l',rfl,ht,hc'⟩:=ho
    exact⟨m-1,by omega,q+1,rfl,by omega,ht,hc'.up (by omega)⟩
 ·simp only [decide_eq_false_iff_not]at hge
  have:q=3:=by omega
  subst this
  refine .ret (.ret ⟨zxq hn hw1 (by omega) (by omega) ?_,ho.up (by omega)⟩)
  rw [hw2,show 2+p.1-1=1+p.1 by omega]
  exact hT
theorem zum [Inhabited zgz] {c:zaf} {k:Int} (h:okC c k) (hk:k≤4611686018427360000):zb3 (zci c) fun p=>zcH p.1∧okC p.2 (k+60):=by
 unfold zci
 refine(zwk h (by omega)).bind fun p ⟨hg,hc⟩=>(zbz 14 hc (by omega)).bind fun q ⟨_,hd⟩=> ?_
 have hS:=zeA hg
 have hcl:=zgT hg
 have h4:p.1.fCols.length≤4∧p.1.fIdxs.length≤3:=by
  have:=hg
  unfold zad at this
  simp only [Bool.and_eq_true,decide_eq_true_eq]at this
  have:=za3.1 this.1.1.2.2
  omega
 refine .ite (fun _=> ?_) fun _=> .ite (fun _=> ?_) fun _=> .ite (fun _=> ?_) fun _=> .ite (fun _=> ?_) fun _=> .ret ⟨⟨hS.name,hS.cols,hS.col,hS.idxs,hS.idx⟩,hd.up (by omega)⟩
 ·refine(zpa _ (by simp) hd (by omega)).bind fun r ⟨hr,he⟩=> .ret ⟨⟨?_,hS.cols,hS.col,hS.idxs,hS.idx⟩,he.up (by omega)⟩
  simp only [List.mem_cons,List.not_mem_nil,or_false]at hr
  dsimp only
  rcases hr with e|e|e<;>rw [e]<;>decide
 ·refine(zpa _ (by simp) hd (by omega)).bind fun r ⟨hr,he⟩=> .req (by simp;omega) (.ret ⟨⟨hS.name, ?_,fun z hz=> ?_,hS.idxs,hS.idx⟩,he.up (by omega)⟩)
  ·dsimp only;rw [List.length_append,List.length_singleton];omega
  ·dsimp only at hz
   rcases List.mem_append.1 hz with hz|hz
   ·exact hS.col z hz
   ·rw [List.mem_singleton.1 hz]
    simp only [List.mem_cons,List.not_mem_nil,or_false]at hr
    rcases hr with e|e|e|e<;>rw [e]<;>decide
 ·refine .req ⟨by omega,by omega,by omega⟩ (.ret ⟨⟨hS.name, ?_,fun z hz=> ?_,hS.idxs,hS.idx⟩,hd.up (by omega)⟩)
  ·dsimp only
   unfold zez
   rw [List.length_drop,List.length_take];omega
  ·dsimp only at hz
   unfold zez at hz
   exact hS.col z (List.mem_of_mem_take (List.mem_of_mem_drop hz))
 ·refine(zpa _ (by simp) hd (by omega)).bind fun r ⟨hr,he⟩=>(zbz 5 he (by omega)).bind fun u ⟨_,hf⟩=>(zbz 5 hf (by omega)).bind fun v ⟨_,hg2⟩=> .req (by simp;omega) (.ret ⟨⟨hS.name,hS.cols,hS.col, ?_,fun z hz=> ?_⟩,hg2.up (by omega)⟩)
  ·dsimp only;rw [List.length_append,List.length_singleton];omega
  ·dsimp only at hz
   rcases List.mem_append.1 hz with hz|hz
   ·exact hS.idx z hz
   ·rw [List.mem_singleton.1 hz]
    simp only [List.mem_cons,List.not_mem_nil,or_false]at hr
    dsimp only
    rcases hr with e|e|e<;>rw [e]<;>decide
theorem zr3 [Inhabited zgz] {c:zaf} {k:Int} {t:zab} (hg:zad t=true) (h:okC c k) (hk:k≤4611686018427380000):zb3 (za0 c t) fun p=>zaq t p.1=true∧okC p.2 (k+20):=by
 have hc2:=zgT hg
 have h4:t.fCols.length≤4:=by
  have:=hg
  unfold zad at this
  simp only [Bool.and_eq_true,decide_eq_true_eq]at this
  have:=za3.1 this.1.1.2.2
  omega
 unfold za0
 refine(zpa _ (by simp) h (by omega)).bind fun n ⟨hn,hc⟩=> ?_
 have hf0:field n.1=true:=by
  simp only [List.mem_cons,List.not_mem_nil,or_false]at hn
  rcases hn with e|e|e|e|e|e<;>rw [e]<;>decide
 refine zhI (fun m s=>s.2.2.2.length+m=t.fCols.length∧(∀x∈s.2.2.2,field x=true)∧okC ⟨s.1,s.2.1,s.2.2.1⟩ (k+2+4*s.2.2.2.length)) (fun m s hI=> ?_) (n:=t.fCols.length-1) ⟨by simp;omega,by simpa using hf0,hc.up (by simp;omega)⟩
 obtain⟨a,b,e,l⟩:=s
 obtain⟨i1,i2,i3⟩:=hI
 dsimp only at i1 i2 i3 ⊢
 unfold zgs
 refine .ite (fun hlt=> ?_) fun hge=> ?_
 ·simp only [decide_eq_true_eq]at hlt
  refine(zpa _ (by simp) i3 (by omega)).bind fun x ⟨hx,hd⟩=> .req (by simp;omega) (.ret ⟨m-1,by omega,by simp;omega,fun z hz=> ?_, ?_⟩)
  ·dsimp only at hz
   rcases List.mem_append.1 hz with hz|hz
   ·exact i2 z hz
   ·rw [List.mem_singleton.1 hz]
    simp only [List.mem_cons,List.not_mem_nil,or_false]at hx
    rcases hx with e|e|e|e|e<;>rw [e]<;>decide
  ·refine hd.up ?_
   dsimp only
   rw [List.length_append,List.length_singleton];omega
 ·simp only [decide_eq_false_iff_not]at hge
  refine .ret (.ret ⟨?_,i3.up (by omega)⟩)
  unfold zaq
  rw [Bool.and_eq_true,beq_iff_eq]
  exact⟨by dsimp only;omega,List.all_eq_true.2 i2⟩
theorem zkn.set {l:List Str} {i:Nat} {s:Str} (h:zkn l) (hs:s.length≤10):zkn (l.set i s):=⟨by rw [List.length_set];exact h.len,fun x hx=>by
 rcases List.mem_or_eq_of_mem_set hx with hx|rfl
 ·exact h.each x hx
 ·exact hs⟩
theorem zse [Inhabited zgz] {c:zaf} {k:Int} {t:zab} (hg:zad t=true) (h:okC c k) (hk:k≤4611686018427370000):zb3 (zbQ c t) fun p=>zkn p.1.fVals∧okC p.2 (k+40):=by
 unfold zbQ
 refine(zr3 hg h (by omega)).bind fun r ⟨hr,hc⟩=>(zbz 10 hc (by omega)).bind fun q ⟨_,hd⟩=> ?_
 obtain⟨hs,h2⟩:=zfH hg hr
 have h5:r.1.fVals.length≤4:=by
  have:=hg
  unfold zad at this
  simp only [Bool.and_eq_true,decide_eq_true_eq]at this
  have h1:=za3.1 this.1.1.2.2
  have h3:=hr
  unfold zaq at h3
  rw [Bool.and_eq_true,beq_iff_eq]at h3
  omega
 refine .ite (fun _=> ?_) fun _=> .ite (fun _=> ?_) fun _=> .ite (fun _=> .ret ⟨⟨by simp,by simp⟩,hd.up (by omega)⟩) fun _=> .ret ⟨⟨hs.len,hs.each⟩,hd.up (by omega)⟩
 ·refine(zbz _ hd (by omega)).bind fun u ⟨hu,he⟩=>(zpa _ (by simp) he (by omega)).bind fun z ⟨hz,hf⟩=>zb3.bind (P:=fun _=>True) (.getI hu.1 (hu.2.1 (by omega)) fun _ _=>trivial) fun _ _=> .ret ⟨hs.set ?_,hf.up (by omega)⟩
  simp only [List.mem_cons,List.not_mem_nil,or_false]at hz
  rcases hz with e|e|e|e<;>rw [e]<;>decide
 ·refine .req (by simp;omega) (.ret ⟨⟨by simp;omega,fun x hx=> ?_⟩,hd.up (by omega)⟩)
  dsimp only at hx
  rcases List.mem_append.1 hx with hx|hx
  ·exact hs.each x hx
  ·rw [List.mem_singleton.1 hx];decide
end Go.Proofs.YtbmbkgalkfmjdaaGreatDoor
end
section
namespace Go.Proofs.YtbmbkgalkfmjdaaGreatDoor
open Go.RowKit
set_option maxRecDepth 100000
theorem zqc.mono {n m:Nat} {l:List zaa} (h:zqc n l) (hm:n≤m):zqc m l:=⟨h.rise,by have:=h.len;omega,h.good⟩
theorem zDV [Inhabited zgz] {c:zaf} {k:Int} (h:okC c k) (hk:k≤4611686018427387000):zb3 (zdY c) fun p=>goodKey p.1=true∧okC p.2 (k+2):=by
 unfold zdY
 refine(zpa _ (by simp) h (by omega)).bind fun p ⟨hp,hc⟩=> .ret ⟨?_,hc⟩
 simp only [List.mem_cons,List.not_mem_nil,or_false]at hp
 dsimp only
 rcases hp with e|e|e|e|e|e|e|e<;>rw [e]<;>decide
theorem zEc [Inhabited zgz] {c:zaf} {k:Int} (h:okC c k) (hk:k≤4611686018427387000):zb3 (zd0 c) fun p=>zgf p.1=true∧okC p.2 (k+2):=by
 unfold zd0
 refine(zpa _ (by simp) h (by omega)).bind fun p ⟨hp,hc⟩=> .ret ⟨?_,hc⟩
 simp only [List.mem_cons,List.not_mem_nil,or_false]at hp
 dsimp only
 rcases hp with e|e|e|e|e|e|e<;>rw [e]<;>decide
def zwu (t:zab) (l:List zaa):Nat:=(l.filter (zbj t)).length
theorem zsN {t:zab} {w:zaa}: ∀l:List zaa,zwu t (zgA wk w l)≤zwu t l+(if zbj t w=true then 1 else 0)
 | []=>by
  unfold zwu
  rw [zgA,List.filter_cons]
  split<;>simp
 |z::l=>by
  have ih:=zsN (t:=t) (w:=w) l
  unfold zwu at ih ⊢
  rw [zgA]
  split
  ·rw [List.filter_cons]
   split<;>simp
  ·split
   ·rw [List.filter_cons,List.filter_cons]
    split<;>split<;>(try simp only [List.length_cons])<;>omega
   ·rw [List.filter_cons,List.filter_cons]
    split<;>(try simp only [List.length_cons])<;>omega
theorem zr1 {t:zab} {x:zbs} {r:zbE} (hg:zad t=true) (hx:x∈t.fIdxs) (hr:zaq t r=true) (l:List zaa):zwu t (zgA wk ⟨zdn t x.fName x.fCol r, [],false⟩ l)≤zwu t l:=by
 have h:=zsN (t:=t) (w:=⟨zdn t x.fName x.fCol r, [],false⟩) l
 rw [if_neg (fun hrow=> ?_)]at h
 ·omega
 ·obtain⟨h1,h2⟩:=zjj hrow
  exact zjf hg (zdT hg hx).1 h1 hr (congrArg zaa.fKey h2).symm
structure OkR (n:Nat) (l:List zaa):Prop where
 ok:zqc n l
 live: ∀w∈l,w.fGone=false
theorem OkR.len {n:Nat} {l:List zaa} (h:OkR n l):l.length≤n:=h.ok.len
theorem OkR.rise {n:Nat} {l:List zaa} (h:OkR n l):zfB l:=h.ok.rise
theorem OkR.good {n:Nat} {l:List zaa} (h:OkR n l): ∀w∈l,zhc w=true:=h.ok.good
theorem OkR.mono {n m:Nat} {l:List zaa} (h:OkR n l) (hm:n≤m):OkR m l:=⟨h.ok.mono hm,h.live⟩
theorem zmF {w y:zaa}: ∀{l:List zaa},y∈zgA wk w l→y=w∨y∈l
 | [],h=> .inl (by simpa [zgA]using h)
 |z::l,h=>by
  rw [zgA]at h
  split at h
  ·rcases List.mem_cons.1 h with h|h
   ·exact .inl h
   ·exact .inr h
  ·split at h
   ·rcases List.mem_cons.1 h with h|h
    ·exact .inl h
    ·exact .inr (by simp [h])
   ·rcases List.mem_cons.1 h with h|h
    ·exact .inr (by simp [h])
    ·rcases zmF h with h|h
     ·exact .inl h
     ·exact .inr (by simp [h])
theorem ztG {n:Nat} {ws:List zaa} {w:zaa} (h:OkR n ws) (hw:zhc w=true) (hl:w.fGone=false):OkR (n+1) (zgA wk w ws):=⟨zhD h.ok hw,fun y hy=>by
 rcases zmF hy with rfl|hy
 ·exact hl
 ·exact h.live y hy⟩
theorem zv2 [Inhabited zgz] {t:zab} {c:zaf} {k:Int} {n m:Nat} {l:List zaa} (hl:OkR n l) (hm:zwu t l≤m) (hn:n≤1000) (h:okC c k) (hk:k≤4611686018427380000):zb3 (zdG c.fcode c.fat c.fseed l) fun p=>(OkR (n+1) p.1∧zwu t p.1≤m+1)∧okC p.2 (k+6):=by
 unfold zdG
 have hlen:=hl.len
 refine(zlJ 6 (c:=⟨c.fcode,c.fat,c.fseed⟩) h (by omega)).bind fun p hp=> .ite (fun _=> ?_) fun _=> .ret ⟨⟨hl.mono (by omega),by dsimp only;omega⟩,hp.up (by omega)⟩
 refine(zDV hp (by omega)).bind fun q ⟨hq,hc⟩=>(zEc hc (by omega)).bind fun r ⟨hr,hd⟩=> ?_
 rw [zkU (by omega) hl.rise,Option.bind_some]
 refine .ret ⟨⟨ztG hl (ztx hq hr) rfl, ?_⟩,hd.up (by omega)⟩
 have:=zsN (t:=t) (w:=⟨q.1,r.1,false⟩) l
 split at this<;>(dsimp only;omega)
theorem zvC [Inhabited zgz] {t:zab} {q:Nat} {x:zbs} {c:zaf} {k:Int} {n m:Nat} {l:List zaa} (hg:zad t=true) (hx:x∈t.fIdxs) (hq:q≤3) (hl:OkR n l) (hm:zwu t l≤m) (hn:n≤1000) (h:okC c k) (hk:k≤4611686018427370000):
  zb3 (zdK t q x c.fcode c.fat c.fseed l) fun o=> ∃(c':zaf) (l':List zaa),o= .inl (((q+1:Nat):Int),c'.fcode,c'.fat,c'.fseed,l')∧OkR (n+1) l'∧zwu t l'≤m∧okC c' (k+30):=by
 unfold zdK
 have hlen:=hl.len
 have w1:IntKind.i64.wrap ((q:Int)+1)=((q+1:Nat):Int):=by rw [zaJ (by omega) (by omega)];omega
 refine(zlJ 5 (c:=⟨c.fcode,c.fat,c.fseed⟩) h (by omega)).bind fun p hp=> .ite (fun _=> ?_) fun _=> .ret ⟨p.2,l,by rw [w1],hl.mono (by omega),hm,hp.up (by omega)⟩
 refine(zr3 hg hp (by omega)).bind fun r ⟨hr,hc⟩=> ?_
 obtain⟨e1,e2⟩:=zpK hg hx hr
 rw [e1,Option.bind_some,zkU (by omega) hl.rise,Option.bind_some]
 exact .ret ⟨r.2,_,by rw [w1],ztG hl e2 rfl,Nat.le_trans (zr1 hg hx hr l) hm,hc.up (by omega)⟩
def zEK (q:Nat):Nat:=4+5*q
theorem zxR {t:zab} (h:zad t=true):t.fIdxs.length≤3:=by
 unfold zad at h
 simp only [Bool.and_eq_true,decide_eq_true_eq]at h
 omega
theorem zvv [Inhabited zgz] {t:zab} {c:zaf} {k:Int} {l:List zaa} (hg:zad t=true) (hl:OkR 4 l) (h:okC c k) (hk:k≤4611686018427360000):zb3 (zdy t c.fcode c.fat c.fseed l) fun p=>(OkR 20 p.1∧zwu t p.1≤5)∧okC p.2 (k+700):=by
 unfold zdy
 have hS:=zeA hg
 have h3:=zxR hg
 refine zhI (fun m s=> ∃q:Nat,s.1=(q:Int)∧q+m=t.fIdxs.length∧OkR (zEK q) s.2.2.2.2∧zwu t s.2.2.2.2≤4∧okC ⟨s.2.1,s.2.2.1,s.2.2.2.1⟩ (k+200*q)) (fun m s hI=> ?_) (n:=t.fIdxs.length) (by exact⟨0,rfl,by omega,hl,Nat.le_trans (List.length_filter_le _ _) hl.len,by simpa using h⟩)
 obtain⟨q,e1,e2,hT,hm,ho⟩:=hI
 obtain⟨s1,a,b,e,l⟩:=s
 dsimp only at e1 hT hm ho ⊢
 subst e1
 have hb:zEK q=4+5*q:=rfl
 have hlen:=hT.len
 unfold zfI
 refine .ite (fun hlt=> ?_) fun hge=> ?_
 ·simp only [decide_eq_true_eq]at hlt
  have hq:q<t.fIdxs.length:=by omega
  rw [zam hq,Option.bind_some,ztt hS.name (by omega) (fun w hw=>zon (hT.good w hw)),Option.bind_some]
  have hx:=List.getElem_mem hq
  have hR:(rows t l).length≤4:=by unfold rows;rw [List.length_map];exact hm
  generalize hrs:rows t l=R at hR
  have hRg: ∀r∈R,zaq t r=true:=fun r hr=>zsj (l:=l) (by rw [hrs];exact hr)
  refine zhI (fun j s=> ∃i:Nat,s.1=(i:Int)∧i+j=R.length∧OkR (zEK q+i) s.2.2.2.2∧zwu t s.2.2.2.2≤4∧okC ⟨s.2.1,s.2.2.1,s.2.2.2.1⟩ (k+200*q+2*i)) (fun j s hJ=> ?_) (n:=R.length) (by exact⟨0,rfl,by omega,hT,hm,by simpa using ho⟩)
  obtain⟨i,f1,f2,gT,gm,go⟩:=hJ
  obtain⟨s1,a,b,e,l'⟩:=s
  dsimp only at f1 gT gm go ⊢
  subst f1
  have glen:=gT.len
  unfold zfK
  refine .ite (fun hlt2=> ?_) fun hge2=> ?_
  ·simp only [decide_eq_true_eq]at hlt2
   have hi:i<R.length:=by omega
   have w1:IntKind.i64.wrap ((i:Int)+1)=((i+1:Nat):Int):=by rw [zaJ (by omega) (by omega)];omega
   obtain⟨n1,n2⟩:=zpK hg hx (hRg _ (List.getElem_mem hi))
   rw [zam hi,Option.bind_some]
   refine(zlJ 5 go (by omega)).bind fun p hp=> .ite (fun _=> ?_) fun _=> .ret ⟨j-1,by omega,i+1,w1,by omega,gT.mono (by omega),gm,hp.up (by omega)⟩
   rw [n1,Option.bind_some,zkU (by omega) gT.rise,Option.bind_some]
   exact .ret ⟨j-1,by omega,i+1,w1,by omega,(ztG gT n2 rfl).mono (by omega),Nat.le_trans (zr1 hg hx (hRg _ (List.getElem_mem hi)) _) gm,hp.up (by omega)⟩
  ·simp only [decide_eq_false_iff_not]at hge2
   refine .ret ((zvC (c:=⟨a,b,e⟩) hg hx (by omega) gT gm (by omega) go (by omega)).mono fun o ho2=> ?_)
   obtain⟨c',l2,rfl,z1,zm,z2⟩:=ho2
   exact⟨m-1,by omega,q+1,rfl,by omega,z1.mono (by have:zEK (q+1)=4+5*(q+1):=rfl;omega),zm,z2.up (by omega)⟩
 ·refine .ret ((zv2 (t:=t) (c:=⟨a,b,e⟩) hT hm (by omega) ho (by omega)).mono fun p hp=>⟨⟨hp.1.1.mono (by omega),hp.1.2⟩,hp.2.up (by omega)⟩)
theorem zAF [Inhabited zgz] {t:zab} {c:zaf} {k:Int} (hg:zad t=true) (h:okC c k) (hk:k≤4611686018427350000):zb3 (zde c t) fun p=>(OkR 20 p.1∧zwu t p.1≤5)∧okC p.2 (k+900):=by
 unfold zde
 have hS:=zeA hg
 refine(zbz 5 h (by omega)).bind fun p ⟨hp,hc⟩=> ?_
 have p2:=hp.2.1 (by omega)
 obtain⟨m,hm⟩:=Int.eq_ofNat_of_zero_le hp.1
 have hm4:m≤4:=by omega
 refine zhI (fun j s=>j≤4∧s.2.1=(j:Int)∧OkR (4-j) s.1∧okC ⟨s.2.2.1,s.2.2.2.1,s.2.2.2.2⟩ (k+2+30*(4-j))) (fun j s hI=> ?_) (n:=m) (by exact⟨hm4,hm,⟨⟨.nil,by simp,by simp⟩,by simp⟩,hc.up (by omega)⟩)
 obtain⟨l,s1,a,b,e⟩:=s
 obtain⟨i0,i1,i2,i3⟩:=hI
 dsimp only at i1 i2 i3 ⊢
 subst i1
 have hlen:=i2.len
 unfold zfM
 refine .ite (fun hlt=> ?_) fun hge=> ?_
 ·simp only [decide_eq_true_eq,gt_iff_lt]at hlt
  refine(zr3 hg i3 (by omega)).bind fun r ⟨hr,hd⟩=> ?_
  obtain⟨hs,h2⟩:=zfH hg hr
  have hne:r.1.fVals≠ []:=fun e=>by rw [e]at h2;simp at h2
  have hw:=zmI hg hr
  rw [zqU hS.name hs.small hne,Option.bind_some,zkU (by omega) i2.rise,Option.bind_some]
  refine .ret ⟨j-1,by omega,by omega, ?_,(ztG i2 (w:=zea t r.1) (ztx hw.1 hw.2) rfl).mono (by omega),hd.up (by omega)⟩
  dsimp only
  rw [zaJ (by omega) (by omega)];omega
 ·simp only [decide_eq_false_iff_not,gt_iff_lt]at hge
  exact .ret ((zvv (c:=⟨a,b,e⟩) hg (i2.mono (by omega)) i3 (by omega)).mono fun p hp=>⟨hp.1,hp.2.up (by omega)⟩)
structure zqk (l:List zaa):Prop where
 len:l.length≤100
 each: ∀w∈l,zkR w
theorem zqk.small {l:List zaa} (h:zqk l):zmR l:=⟨by have:=h.len;omega,fun w hw=>by
 have:=h.each w hw
 unfold zkR at this
 omega⟩
theorem zqv (w:zaa): ∀(l:List zaa),(zgA wk w l).length≤l.length+1
 | []=>by simp [zgA]
 |z::l=>by
  rw [zgA]
  split
  ·simp
  ·split
   ·simp
   ·have:=zqv w l
    simp only [List.length_cons];omega
theorem zqk.put {l:List zaa} {w:zaa} (h:zqk l) (hl:l.length≤99) (hw:zkR w):zqk (zgA wk w l):=⟨by have:=zqv w l;omega,fun y hy=>by
 rcases zmF hy with rfl|hy
 ·exact hw
 ·exact h.each y hy⟩
theorem OkR.tiny {n:Nat} {l:List zaa} (h:OkR n l) (hn:n≤100):zqk l:=⟨by have:=h.len;omega,fun w hw=>zon (h.good w hw)⟩
theorem zqc.tiny {n:Nat} {l:List zaa} (h:zqc n l) (hn:n≤100):zqk l:=⟨by have:=h.len;omega,fun w hw=>zon (h.good w hw)⟩
theorem zuy [Inhabited zgz] {t:zab} {c:zaf} {k:Int} (hg:zad t=true) (h:okC c k) (hk:k≤4611686018427340000):zb3 (zcg c t) fun p=>zqk p.1∧okC p.2 (k+1000):=by
 unfold zcg
 have hn:=(zgE (zfd hg)).1
 refine(zAF hg h (by omega)).bind fun s ⟨⟨hs,_⟩,hc⟩=>(zbz 12 hc (by omega)).bind fun q ⟨_,hd⟩=> ?_
 have hT:=hs.tiny (by omega)
 have hlen:=hs.len
 refine .ite (fun _=> ?_) fun _=> .ite (fun _=> ?_) fun _=> .ite (fun _=> .ite (fun hpos=> ?_) fun _=> .ret ⟨hT,hd.up (by omega)⟩) fun _=> .ite (fun _=> ?_) fun _=> .ret ⟨hT,hd.up (by omega)⟩
 ·refine .req (by simp;omega) (.ret ⟨⟨by simp;omega,fun w hw=> ?_⟩,hd.up (by omega)⟩)
  dsimp only at hw
  rcases List.mem_append.1 hw with hw|hw
  ·exact hT.each w hw
  ·rw [List.mem_singleton.1 hw];exact⟨by decide,by decide⟩
 ·refine .req (by simp;omega) ((zpa _ (by simp) hd (by omega)).bind fun u ⟨hu,he⟩=> ?_)
  have hul:u.1.length≤4:=by
   simp only [List.mem_cons,List.not_mem_nil,or_false]at hu
   rcases hu with e|e|e<;>rw [e]<;>decide
  refine .req (by simp;omega) ((zpa _ (by simp) he (by omega)).bind fun v ⟨hv,hf⟩=> ?_)
  have hvl:v.1.length≤5:=by
   simp only [List.mem_cons,List.not_mem_nil,or_false]at hv
   rcases hv with e|e|e|e<;>rw [e]<;>decide
  rw [zkU (by omega) hs.rise,Option.bind_some]
  exact .ret ⟨hT.put (by omega) ⟨by simp;omega,by dsimp only;omega⟩,hf.up (by omega)⟩
 ·simp only [decide_eq_true_eq]at hpos
  refine(zbz _ hd (by omega)).bind fun u ⟨hu,he⟩=> ?_
  obtain⟨y,ey,hy,_⟩:=zgK (xs:=s.1) hu.1 (hu.2.1 (by omega))
  rw [ey,Option.bind_some]
  refine .ret ⟨⟨by rw [List.length_set];omega,fun w hw=> ?_⟩,he.up (by omega)⟩
  rcases List.mem_or_eq_of_mem_set hw with hw|rfl
  ·exact hT.each w hw
  ·exact hT.each y hy
 ·refine .req (by simp;omega) ((zpa _ (by simp) hd (by omega)).bind fun u ⟨hu,he⟩=> ?_)
  have hul:u.1.length≤6:=by
   simp only [List.mem_cons,List.not_mem_nil,or_false]at hu
   rcases hu with e|e|e|e<;>rw [e]<;>decide
  refine .req (by simp;omega) ?_
  rw [zkU (by omega) hs.rise,Option.bind_some]
  exact .ret ⟨hT.put (by omega) ⟨by simp;omega,by simp⟩,he.up (by omega)⟩
structure zsc (a:zaj):Prop where
 old:zkn a.fOld.fVals
 new:zkn a.fNew.fVals
theorem zsc.small {a:zaj} (h:zsc a):zjW a:=⟨h.old.small,h.new.small⟩
theorem zt7:zkn []:=⟨by simp,by simp⟩
theorem zqm [Inhabited zgz] {t:zab} {c:zaf} {k:Int} {v:List Str} (hg:zad t=true) (hv:zkn v) (hv2:2≤v.length) (h:okC c k) (hk:k≤4611686018427340000):zb3 (zc4 t c.fcode c.fat c.fseed v) fun p=>zsc p.1∧okC p.2 (k+30):=by
 unfold zc4
 refine(zbz 3 (c:=⟨c.fcode,c.fat,c.fseed⟩) h (by omega)).bind fun p ⟨_,hc⟩=> .ite (fun _=> ?_) fun _=> .ite (fun _=> .ret ⟨⟨hv,zt7⟩,hc.up (by omega)⟩) fun _=> ?_
 ·exact(zr3 hg hc (by omega)).bind fun r ⟨hr,hd⟩=> .ret ⟨⟨zt7,(zfH hg hr).1⟩,hd.up (by omega)⟩
 ·refine(zr3 hg hc (by omega)).bind fun r ⟨hr,hd⟩=> ?_
  obtain⟨hs,h2⟩:=zfH hg hr
  obtain⟨y,ey,hy,_⟩:=zgK (xs:=v) (i:=0) (by omega) (by omega)
  rw [ey,Option.bind_some]
  refine zb3.bind (P:=fun _=>True) (.getI (by omega) (by omega) fun _ _=>trivial) fun _ _=> .ret ⟨⟨hv,hs.set (hv.each y hy)⟩,hd.up (by omega)⟩
theorem zDQ [Inhabited zgz] {t:zab} {l:List zaa} {c:zaf} {k:Int} (hg:zad t=true) (hl:zqk l) (h:okC c k) (hk:k≤4611686018427330000):zb3 (zdV c t l) fun p=>zsc p.1∧okC p.2 (k+100):=by
 unfold zdV
 have hS:=zeA hg
 have hlen:=hl.len
 rw [ztt hS.name (by omega) hl.each,Option.bind_some]
 have hR:=rows_len t l
 refine(zr3 hg h (by omega)).bind fun r ⟨hr,hc⟩=> .ite (fun hpos=> ?_) fun _=> ?_
 ·simp only [decide_eq_true_eq]at hpos
  refine(zlJ 4 hc (by omega)).bind fun u hu=> ?_
  unfold zc3
  refine .ite (fun _=> ?_) fun _=> ?_
  ·refine(zbz _ (c:=⟨u.2.fcode,u.2.fat,u.2.fseed⟩) hu (by omega)).bind fun i ⟨hi,hd⟩=> ?_
   obtain⟨y,ey,hy,_⟩:=zgK (xs:=rows t l) hi.1 (hi.2.1 (by omega))
   rw [ey,Option.bind_some]
   obtain⟨hs,h2⟩:=zfH hg (zsj hy)
   exact(zqm hg hs h2 hd (by omega)).mono fun p hp=>⟨hp.1,hp.2.up (by omega)⟩
  ·obtain⟨hs,h2⟩:=zfH hg hr
   exact(zqm hg hs h2 hu (by omega)).mono fun p hp=>⟨hp.1,hp.2.up (by omega)⟩
 ·unfold zc3
  refine .ite (fun hh=>by cases hh) fun _=> ?_
  obtain⟨hs,h2⟩:=zfH hg hr
  exact(zqm hg hs h2 hc (by omega)).mono fun p hp=>⟨hp.1,hp.2.up (by omega)⟩
theorem zxi [Inhabited zgz] {t:zab} {l:List zaa} {c:zaf} {k:Int} (hg:zad t=true) (hl:zqk l) (h:okC c k) (hk:k≤4611686018427320000):zb3 (zcE c t l) fun p=>zsc p.1∧okC p.2 (k+200):=by
 unfold zcE
 refine(zDQ hg hl h (by omega)).bind fun a ⟨ha,hc⟩=>(zbz 10 hc (by omega)).bind fun q ⟨_,hd⟩=> ?_
 refine .ite (fun _=> ?_) fun _=> .ite (fun _=> ?_) fun _=> .ite (fun _=> ?_) fun _=> .ret ⟨⟨ha.old,ha.new⟩,hd.up (by omega)⟩
 ·exact(zbz 5 hd (by omega)).bind fun u ⟨_,he⟩=> .ret ⟨⟨ha.old,ha.new⟩,he.up (by omega)⟩
 ·exact(zse hg hd (by omega)).bind fun u ⟨hu,he⟩=> .ret ⟨⟨ha.old,hu⟩,he.up (by omega)⟩
 ·exact(zse hg hd (by omega)).bind fun u ⟨hu,he⟩=> .ret ⟨⟨hu,ha.new⟩,he.up (by omega)⟩
theorem zuQ {code:List Int} (h: ∀b∈code,0≤b∧b≤255):zb3 (zfq code) fun p=>zcH p.1∧zqk p.2.1∧zsc p.2.2:=by
 unfold zfq
 refine(zwk (.start h) (by omega)).bind fun t ⟨hg,hc⟩=>(zuy hg hc (by omega)).bind fun l ⟨hl,hd⟩=>(zxi hg hl hd (by omega)).bind fun a ⟨ha,he⟩=>(zlJ 12 he (by omega)).bind fun u hu=> .ite (fun _=> ?_) fun _=> .ret ⟨zeA hg,hl,ha⟩
 exact(zum hu (by omega)).bind fun b ⟨hb,_⟩=> .ret ⟨hb,hl,ha⟩
end Go.Proofs.YtbmbkgalkfmjdaaGreatDoor
end
section
namespace Go.Proofs.YtbmbkgalkfmjdaaGreatDoor
open Go.RowKit
set_option maxRecDepth 100000
end Go.Proofs.YtbmbkgalkfmjdaaGreatDoor
end
section
namespace Go.Proofs.YtbmbkgalkfmjdaaGreatDoor
open Go.RowKit
set_option maxRecDepth 100000
end Go.Proofs.YtbmbkgalkfmjdaaGreatDoor
end
section
namespace Go.Proofs.YtbmbkgalkfmjdaaGreatDoor
open Go.RowKit
set_option maxRecDepth 100000
structure zFU (t:zab):Prop where
 name:t.fName.length≤9223372036854775807
 cols:t.fCols.length≤9223372036854775807
 col: ∀c∈t.fCols,c.length≤9223372036854775807
 idxs:t.fIdxs.length≤9223372036854775807
 idx: ∀x∈t.fIdxs,x.fName.length≤9223372036854775807
end Go.Proofs.YtbmbkgalkfmjdaaGreatDoor
end
section
namespace Go.Proofs.YtbmbkgalkfmjdaaGreatDoor
open Go.RowKit
set_option maxRecDepth 100000
end Go.Proofs.YtbmbkgalkfmjdaaGreatDoor
end
section
namespace Go.Proofs.YtbmbkgalkfmjdaaGreatDoor
open Go.RowKit
set_option maxRecDepth 100000
end Go.Proofs.YtbmbkgalkfmjdaaGreatDoor
end
section
namespace Go.Proofs.YtbmbkgalkfmjdaaGreatDoor
open Go.RowKit
set_option maxRecDepth 100000
theorem znM {α:Type} {xs:List α} {i:Int} {x:α} (h:getI xs i=some x):0≤i∧xs[i.toNat]?=some x∧i<xs.length:=by
 unfold getI at h
 split at h
 ·rename_i h0
  have:=(List.getElem?_eq_some_iff.1 h).1
  exact⟨h0,h,by omega⟩
 ·cases h
def zgl (t:zab) (k c:Int):zab:=⟨t.fName,t.fCols,t.fIdxs.set k.toNat {((t.fIdxs[k.toNat]?).getD ⟨[],0,0⟩)with fStage:=c}⟩
def zih (a b:Int):Int:=if a<b then a+1 else a-1
def zxd:Nat→Int→Int→List Int
 |0,_,_=> []
 |f+1,a,b=>if a=b then []else zih a b::zxd f (zih a b) b
def way (t:zab) (k a b:Int):List zab:=t::(zxd 3 a b).map (zgl t k)
theorem zsL {t:zab} {k b:Int} {body:Int × List zab→Option ((Int × List zab) ⊕ Option (List zab))} (hb0:0≤b) (hb3:b≤3)
  (hs: ∀a o,0≤a→a≤3→a≠b→o.length≤100→body (a,o)=some (.inl (zih a b,o++ [zgl t k (zih a b)]))) (he: ∀o,body (b,o)=some (.inr (some o))):
  ∀(f:Nat) (a:Int) (o:List zab),0≤a→a≤3→(a-b).natAbs≤f→o.length+f≤100→zat body (a,o)=some (o++(zxd f a b).map (zgl t k))
 |0,a,o,_,_,hf,_=>by
  have:a=b:=by omega
  subst this
  rw [zdc,he];simp [zxd]
 |f+1,a,o,h0,h3,hf,ho=>by
  by_cases hab:a=b
  ·subst hab
   rw [zdc,he];simp [zxd]
  ·rw [zdc,hs a o h0 h3 hab (by omega)]
   have hn:0≤zih a b∧zih a b≤3∧(zih a b-b).natAbs≤f:=by unfold zih;split<;>omega
   have:=zsL hb0 hb3 hs he f (zih a b) (o++ [zgl t k (zih a b)]) hn.1 hn.2.1 hn.2.2 (by simp;omega)
   simp only [this,zxd,if_neg hab,List.map_cons,List.append_assoc,List.singleton_append]
theorem zB4 {t:zab} (h:zcH t):zeW t=some t:=by
 unfold zeW
 have h1:=h.cols
 have h2:=h.idxs
 rw [zai (by simp;omega),zai (by simp;omega)]
theorem zzt {t:zab} (h:zcH t):zc9 t=some t:=by
 unfold zc9 zaX zbF
 have h1:=h.cols
 have h2:=h.idxs
 rw [zlh (by omega) (by omega),Option.bind_some,zlh (by omega) (by omega),Option.bind_some]
theorem zx3 {t:zab} {n:Str} {x:zbs} {c:Int} (h:zcH t) (hx:zht t n x):zeT t n c=some (zgl t (zhw (fun y:zbs=>y.fName==n) t.fIdxs) c):=by
 unfold zeT zgl
 rw [zB4 h,Option.bind_some,zwC h,Option.bind_some,hx.at_,Option.bind_some,(znM hx.at_).2.1]
 rfl
theorem zB6 {t:zab} {n:Str} {x:zbs} {c:Int} (h:zcH t) (hx:zht t n x):zbK t n c=some (zgl t (zhw (fun y:zbs=>y.fName==n) t.fIdxs) c):=by
 unfold zbK zgl
 rw [zzt h,Option.bind_some,zwj h,Option.bind_some,hx.at_,Option.bind_some,(znM hx.at_).2.1]
 rfl
theorem zFC {t:zab} {n:Str} {x:zbs} {b:Int} (h:zcH t) (hx:zht t n x) (h0:0≤x.fStage) (h3:x.fStage≤3) (hb0:0≤b) (hb3:b≤3):zjG t n b=some (way t (zhw (fun y:zbs=>y.fName==n) t.fIdxs) x.fStage b):=by
 unfold zjG
 rw [zB4 h,Option.bind_some,zwC h,Option.bind_some,hx.at_,Option.bind_some]
 refine(zsL (t:=t) (k:=zhw (fun y:zbs=>y.fName==n) t.fIdxs) hb0 hb3 ?_ ?_ 3 x.fStage [t] h0 h3 (by omega) (by simp)).trans (by simp [way])
 ·intro a o ha0 ha3 hab ho
  show zef t n b a o=_
  unfold zef
  rw [if_pos (by simpa using hab)]
  have w1:IntKind.i64.wrap (a+1)=a+1:=zaJ (by omega) (by omega)
  have w2:IntKind.i64.wrap (a-1)=a-1:=zaJ (by omega) (by omega)
  by_cases hlt:a<b
  ·rw [if_pos (by simpa using hlt),w1,zx3 h hx,Option.bind_some,zai (by simp;omega)]
   simp [zih,hlt]
  ·rw [if_neg (by simpa using hlt),w2,zx3 h hx,Option.bind_some,zai (by simp;omega)]
   simp [zih,hlt]
 ·intro o
  show zef t n b b o=_
  unfold zef
  rw [if_neg (by simp)]
theorem zDF {t:zab} {n:Str} {x:zbs} {b:Int} (h:zcH t) (hx:zht t n x) (h0:0≤x.fStage) (h3:x.fStage≤3) (hb0:0≤b) (hb3:b≤3):zcz t n b=some (way t (zhw (fun y:zbs=>y.fName==n) t.fIdxs) x.fStage b):=by
 unfold zcz zbR
 rw [zwj h,Option.bind_some,hx.at_,Option.bind_some,Option.bind_some,zzt h,Option.bind_some]
 refine(zsL (t:=t) (k:=zhw (fun y:zbs=>y.fName==n) t.fIdxs) hb0 hb3 ?_ ?_ 3 x.fStage [t] h0 h3 (by omega) (by simp)).trans (by simp [way])
 ·intro a o ha0 ha3 hab ho
  show zbW t n b a o=_
  unfold zbW
  rw [if_pos (by simpa using hab)]
  have w1:IntKind.i64.wrap (a+1)=a+1:=zaJ (by omega) (by omega)
  have w2:IntKind.i64.wrap (a-1)=a-1:=zaJ (by omega) (by omega)
  by_cases hlt:a<b
  ·rw [if_pos (by simpa using hlt),w1,zB6 h hx,Option.bind_some,zai (by simp;omega)]
   simp [zih,hlt]
  ·rw [if_neg (by simpa using hlt),w2,zB6 h hx,Option.bind_some,zai (by simp;omega)]
   simp [zih,hlt]
 ·intro o
  show zbW t n b b o=_
  unfold zbW
  rw [if_neg (by simp)]
def nc (x:zbs):Str × Int:=(x.fName,x.fCol)
structure zFK (t:zab):Prop where
 len:t.fIdxs.length≤3
 stg: ∀x∈t.fIdxs,0≤x.fStage∧x.fStage≤3
end Go.Proofs.YtbmbkgalkfmjdaaGreatDoor
end
section
namespace Go.Proofs.YtbmbkgalkfmjdaaGreatDoor
open Go.RowKit
set_option maxRecDepth 100000
structure zBB (s:zaI):Prop where
 name:s.fName.length≤2000000
 ways:s.fWays.length≤2000000
 way: ∀t∈s.fWays,zcH t
 at_:s.fAt.length≤2000000
 store:zmR s.fStore
theorem zDX {t:zab} (h:zad t=true):zFK t:=by
 unfold zad at h
 simp only [Bool.and_eq_true,decide_eq_true_eq]at h
 refine⟨by omega,fun x hx=> ?_⟩
 obtain⟨i,hi,rfl⟩:=List.mem_iff_getElem.1 hx
 have h1:=List.all_eq_true.1 h.2 i (List.mem_range.2 hi)
 unfold zl3 at h1
 simp only [Bool.and_eq_true,List.getElem?_eq_getElem hi,Option.getD_some]at h1
 exact za3.1 h1.1.2
theorem zwo {α γ:Type} (f:α→γ): ∀(l:List α) (k:Nat) (d y:α),f y=f ((l[k]?).getD d)→(l.set k y).map f=l.map f
 | [],k,d,y,_=>rfl
 |x::l,0,d,y,h=>by
  simp only [List.getElem?_cons_zero,Option.getD_some]at h
  simp [h]
 |x::l,k+1,d,y,h=>by
  simp only [List.getElem?_cons_succ]at h
  simp [zwo f l k d y h]
theorem zmg (t:zab) (k c:Int):(zgl t k c).fIdxs.map (·.fName)=t.fIdxs.map (·.fName):=zwo _ _ _ ⟨[],0,0⟩ _ rfl
theorem zvL {t:zab} {k c:Int} (h:zcH t):zcH (zgl t k c):=by
 refine⟨h.name,h.cols,h.col,by unfold zgl;simpa using h.idxs,fun x hx=> ?_⟩
 have h1:x.fName∈(zgl t k c).fIdxs.map (·.fName):=List.mem_map.2 ⟨x,hx,rfl⟩
 rw [zmg]at h1
 obtain⟨y,hy,e⟩:=List.mem_map.1 h1
 rw [←e];exact h.idx y hy
theorem zzC {xs ys:List zbs} {n:Str} (h:xs.map (·.fName)=ys.map (·.fName)):decide (zhw (fun x:zbs=>x.fName==n) xs≥0)=decide (zhw (fun x:zbs=>x.fName==n) ys≥0):=by
 rw [zjb,zjb]
 have e: ∀l:List zbs,(l.any fun x=>x.fName==n)=(l.map (·.fName)).any (· ==n):=fun l=>by rw [List.any_map];rfl
 rw [e,e,h]
def noT:zab:=⟨[], [], []⟩
def zme (s:zaI):zab:=(s.fWays[0]?).getD noT
def zDC (s:zaI):zab:=(s.fWays[s.fWays.length-1]?).getD noT
def kOf (t:zab) (n:Str):Int:=zhw (fun y:zbs=>y.fName==n) t.fIdxs
def zhd (t:zab) (n:Str):Int:=((t.fIdxs[(kOf t n).toNat]?).getD ⟨[],0,0⟩).fStage
def zE6 (s:zaI):List zab:=way (zme s) (kOf (zme s) s.fName) (zhd (zme s) s.fName) (zhd (zDC s) s.fName)
theorem zAQ {t:zab} {n:Str} {x:zbs} (h:zht t n x):zhd t n=x.fStage:=by
 unfold zhd kOf
 rw [(znM h.at_).2.1];rfl
theorem zCu {t:zab} {n:Str} (h:znE t n=true): ∃x,zht t n x∧zhd t n=x.fStage∧0≤x.fStage∧x.fStage≤3∧zad t=true:=by
 obtain⟨x,hx,_⟩:=zBP h
 have hg:zad t=true:=by
  unfold znE at h
  simp only [Bool.and_eq_true]at h
  exact h.1
 have:=(zDX hg).stg x (zwT hx.at_)
 exact⟨x,hx,zAQ hx,this.1,this.2,hg⟩
def zAX (s:zaI):Prop:=1≤s.fWays.length∧s.fWays.length≤4∧(∀t∈s.fWays,znE t s.fName=true)∧s.fWays=zE6 s∧inB s.fAt.length 1 3=true∧(∀y∈s.fAt,0≤y∧y≤(s.fWays.length:Int)-1)∧zbT s.fStore=true
def xOf (t:zab) (n:Str):zbs:=(t.fIdxs[(kOf t n).toNat]?).getD ⟨[],0,0⟩
theorem zBL {t:zab} {n:Str} {x:zbs} (h:zht t n x):xOf t n=x:=by
 unfold xOf kOf
 rw [(znM h.at_).2.1];rfl
def zwX (s:zaI):List Int:=s.fAt.map fun y=>zhd ((getI s.fWays y).getD noT) s.fName
end Go.Proofs.YtbmbkgalkfmjdaaGreatDoor
end
section
namespace Go.Proofs.YtbmbkgalkfmjdaaGreatDoor
open Go.RowKit
set_option maxRecDepth 100000
def NoE (t:zab) (n:Str) (st:List zaa):Prop:= ∀w∈st,zbO t n w.fKey=false
def NoO (t:zab) (n:Str) (x:zbs) (st:List zaa):Prop:= ∀w∈st,zbO t n w.fKey=true→ ∃q∈st,zbj t q=true∧w.fKey=zdn t n x.fCol (zd1 q)
def NoL (t:zab) (n:Str) (x:zbs) (st:List zaa):Prop:= ∀q∈st,zbj t q=true→ ∃w∈st,w.fKey=zdn t n x.fCol (zd1 q)
structure zrc (t:zab) (a:zaj):Prop where
 tab:zad t=true
 old:a.fKind≠1→zaq t a.fOld=true
 new:a.fKind≠2→zaq t a.fNew=true
 kind:a.fKind=1∨a.fKind=2∨a.fKind=3
 same:a.fKind=3→zeB a.fOld 0=zeB a.fNew 0
structure zve (t:zab) (a:zaj) (n:Str) (x:zbs):Prop extends zrc t a where
 idx:x∈t.fIdxs
 name:x.fName=n
theorem zve.asG {t:zab} {a:zaj} {n:Str} {x:zbs} (A:zve t a n x):zrc t a:=⟨A.tab,A.old,A.new,A.kind,A.same⟩
theorem zCL {t:zab} {a:zaj} (hg:zad t=true) (h:zdm t a=true):zrc t a:=by
 unfold zdm at h
 by_cases h1:a.fKind=1
 ·rw [if_pos h1,Bool.and_eq_true]at h
  exact⟨hg,fun k=>absurd h1 k,fun _=>h.2, .inl h1,fun k=>by omega⟩
 rw [if_neg h1]at h
 by_cases h2:a.fKind=2
 ·rw [if_pos h2,Bool.and_eq_true]at h
  exact⟨hg,fun _=>h.1,fun k=>absurd h2 k, .inr (.inl h2),fun k=>by omega⟩
 rw [if_neg h2]at h
 by_cases h3:a.fKind=3
 ·rw [if_pos h3,Bool.and_eq_true,Bool.and_eq_true,beq_iff_eq]at h
  exact⟨hg,fun _=>h.1,fun _=>h.2.1, .inr (.inr h3),fun _=>h.2.2⟩
 rw [if_neg h3]at h
 cases h
theorem zDg {t:zab} {a:zaj} {n:Str} {x:zbs} (hg:zad t=true) (hx:x∈t.fIdxs) (hn:x.fName=n) (h:zdm t a=true):zve t a n x:=⟨zCL hg h,hx,hn⟩
theorem zy0 (t:zab) (m:Str) (c:Int) (r:zbE):zdn t m c r≠ []:=by unfold zdn;simp
section
variable {t:zab} {a:zaj} (A:zrc t a)
include A
theorem zrc.oldK_eq (h:a.fKind≠1) {y:zbs}:zsq t a y=zdn t y.fName y.fCol a.fOld:=by
 have _:=A
 unfold zsq
 rw [if_neg h]
theorem zrc.newK_eq (h:a.fKind≠2) {y:zbs}:zpM t a y=zdn t y.fName y.fCol a.fNew:=by
 have _:=A
 unfold zpM
 rw [if_neg h]
theorem zrc.idx_key {y:zbs} {w:zaa} (hw:w∈zlX t a y):(w=⟨zsq t a y, [],true⟩∧a.fKind≠1∧zsq t a y≠zpM t a y∧y.fStage≥1)∨(w=⟨zpM t a y, [],false⟩∧a.fKind≠2∧y.fStage≥2):=by
 have _:=A
 unfold zlX at hw
 rcases List.mem_append.1 hw with hw|hw
 ·split at hw
  ·rename_i h
   rw [List.mem_singleton]at hw
   refine .inl ⟨hw,fun k=> ?_,h.2.1,h.2.2⟩
   apply h.1
   unfold zsq
   rw [if_pos k]
  ·simp at hw
 ·split at hw
  ·rename_i h
   rw [List.mem_singleton]at hw
   refine .inr ⟨hw,fun k=> ?_,h.2⟩
   apply h.1
   unfold zpM
   rw [if_pos k]
  ·simp at hw
theorem zrc.idx_entry {n:Str} {y:zbs} (hy:y∈t.fIdxs) {w:zaa} (hw:w∈zlX t a y): ∃r,zaq t r=true∧w.fKey=zdn t y.fName y.fCol r∧zbO t n w.fKey=decide (y.fName=n):=by
 have hc:=za3.1 (zdT A.tab hy).2
 have hl:=(zdT A.tab hy).1
 rcases A.idx_key hw with⟨rfl,h,_⟩|⟨rfl,h,_⟩
 ·refine⟨a.fOld,A.old h,A.oldK_eq h, ?_⟩
  show zbO t n (zsq t a y)=_
  rw [A.oldK_eq h]
  exact zm3 A.tab hl (A.old h) (by omega) hc.2
 ·refine⟨a.fNew,A.new h,A.newK_eq h, ?_⟩
  show zbO t n (zpM t a y)=_
  rw [A.newK_eq h]
  exact zm3 A.tab hl (A.new h) (by omega) hc.2
theorem zrc.rowWs_key {w:zaa} (hw:w∈zno t a): ∃r,zaq t r=true∧w.fKey=(zea t r).fKey:=by
 unfold zno at hw
 split at hw
 ·rename_i h
  rw [List.mem_singleton]at hw;subst hw
  exact⟨a.fNew,A.new (by omega),rfl⟩
 ·rename_i h
  split at hw
  ·rw [List.mem_singleton]at hw;subst hw
   exact⟨a.fOld,A.old h,rfl⟩
  ·rw [List.mem_singleton]at hw;subst hw
   exact⟨a.fOld,A.old h,rfl⟩
theorem zrc.mem_act {w:zaa} (hw:w∈zhj t a):w∈zno t a∨ ∃y∈t.fIdxs,w∈zlX t a y:=by
 have _:=A
 unfold zhj at hw
 rcases List.mem_append.1 hw with h|h
 ·exact .inl h
 ·exact .inr (List.mem_flatMap.1 h)
theorem zrc.new_mem (h:a.fKind≠2):zea t a.fNew∈zhj t a:=by
 refine List.mem_append.2 (.inl ?_)
 unfold zno
 rcases A.kind with k|k|k
 ·rw [if_pos k];exact List.mem_singleton.2 rfl
 ·exact absurd k h
 ·rw [if_neg (by omega),if_neg (by omega),List.mem_singleton,zeE,A.same k,←zeE];rfl
theorem zrc.row_write {w:zaa} (hw:w∈zhj t a) (hr:zbj t w=true):w=zea t a.fNew∧a.fKind≠2:=by
 obtain⟨hgr,hwr⟩:=zjj hr
 rcases A.mem_act hw with h|⟨y,hy,h⟩
 ·unfold zno at h
  rcases A.kind with k|k|k
  ·rw [if_pos k,List.mem_singleton]at h
   exact⟨h,by omega⟩
  ·rw [if_neg (by omega),if_pos k,List.mem_singleton]at h
   have:w.fGone=true:=by rw [h]
   rw [hwr]at this
   cases this
  ·rw [if_neg (by omega),if_neg (by omega),List.mem_singleton,zeE,A.same k,←zeE]at h
   exact⟨h,by omega⟩
 ·obtain⟨r,hgr2,e,_⟩:=A.idx_entry (n:= []) hy h
  rw [hwr]at e
  exact absurd e (zjf A.tab (zdT A.tab hy).1 hgr hgr2)
theorem zrc.over_row {w q:zaa} (hw:w∈zhj t a) (hq:zbj t q=true) (e:w.fKey=q.fKey):w∈zno t a:=by
 obtain⟨hgr,hwr⟩:=zjj hq
 rcases A.mem_act hw with h|⟨y,hy,h⟩
 ·exact h
 ·obtain⟨r,hgr2,e2,_⟩:=A.idx_entry (n:= []) hy h
  rw [e,hwr]at e2
  exact absurd e2 (zjf A.tab (zdT A.tab hy).1 hgr hgr2)
theorem zrc.rowWs_old (h:a.fKind≠1) {w:zaa} (hw:w∈zno t a):w.fKey=(zea t a.fOld).fKey:=by
 have _:=A
 unfold zno at hw
 rw [if_neg h]at hw
 split at hw<;>(rw [List.mem_singleton]at hw;rw [hw])
theorem zrc.rowWs_some (h:a.fKind≠1): ∃w∈zhj t a,w.fKey=(zea t a.fOld).fKey:=by
 have _:=A
 unfold zhj zno
 rw [if_neg h]
 split<;>exact⟨_,List.mem_append.2 (.inl (List.mem_singleton.2 rfl)),rfl⟩
theorem zrc.rowWs_new (h:a.fKind=1) {w:zaa} (hw:w∈zno t a):w.fKey=(zea t a.fNew).fKey:=by
 have _:=A
 unfold zno at hw
 rw [if_pos h,List.mem_singleton]at hw
 rw [hw]
end
section
variable {t:zab} {a:zaj} {n:Str} {x:zbs} (A:zve t a n x)
include A
theorem zve.let_:za8 n 1=true:=by rw [←A.name];exact(zdT A.tab A.idx).1
theorem zve.col:1≤x.fCol∧x.fCol≤(t.fCols.length:Int)-1:=za3.1 (zdT A.tab A.idx).2
theorem zve.idx_mem {w:zaa} (hw:w∈zlX t a x):w∈zhj t a:=by
 unfold zhj
 exact List.mem_append.2 (.inr (List.mem_flatMap.2 ⟨x,A.idx,hw⟩))
theorem zve.entry_write {w:zaa} (hw:w∈zhj t a) (he:zbO t n w.fKey=true):w∈zlX t a x:=by
 rcases A.mem_act hw with h|⟨y,hy,h⟩
 ·obtain⟨r,hr,e⟩:=A.rowWs_key h
  rw [e,zx1 A.tab hr]at he
  cases he
 ·obtain⟨r,_,_,e⟩:=A.idx_entry (n:=n) hy h
  rw [e,decide_eq_true_eq]at he
  have:y=x:=(zte A.tab).nodupKey hy A.idx (he.trans A.name.symm)
  rw [←this];exact h
variable {st st':List zaa} (hB:zt3 t a st st')
include hB
theorem zve.keep_none (hs:x.fStage≤1) (h:NoE t n st):NoE t n st':=by
 intro y hy
 cases he:zbO t n y.fKey with
 |false=>rfl
 |true=>
  obtain⟨hgone,h1|h1⟩:=(hB y).1 hy
  ·rcases A.idx_key (A.entry_write h1 he)with⟨e,_⟩|⟨_,_,k⟩
   ·rw [e]at hgone;cases hgone
   ·omega
  ·rw [h y h1.1]at he;cases he
theorem zve.keep_orphans (hr:zfB st) (hA:zBu t a st) (hs:1≤x.fStage) (h:NoO t n x st):NoO t n x st':=by
 have hnew:a.fKind≠2→ ∃q∈st',zbj t q=true∧zd1 q=a.fNew:=fun k=>
  ⟨zea t a.fNew,(hB _).2 ⟨rfl, .inl (A.new_mem k)⟩,zzZ A.tab (A.new k),zmX A.tab (A.new k)⟩
 intro y hy he
 obtain⟨hgone,h1|⟨h1,h2⟩⟩:=(hB y).1 hy
 ·rcases A.idx_key (A.entry_write h1 he)with⟨e,_⟩|⟨e,k,_⟩
  ·rw [e]at hgone;cases hgone
  ·obtain⟨q,q1,q2,q3⟩:=hnew k
   refine⟨q,q1,q2, ?_⟩
   rw [q3,e]
   show zpM t a x=_
   rw [A.newK_eq k,A.name]
 ·obtain⟨q,q1,q2,q3⟩:=h y h1 he
  obtain⟨hgr,hwr⟩:=zjj q2
  by_cases ho: ∀w∈zhj t a,w.fKey≠q.fKey
  ·exact⟨q,(hB q).2 ⟨by rw [hwr];rfl, .inr ⟨q1,ho⟩⟩,q2,q3⟩
  ·have⟨w,hw,e⟩: ∃w∈zhj t a,w.fKey=q.fKey:=by
    apply Classical.byContradiction
    intro hc
    exact ho fun w hw e=>hc ⟨w,hw,e⟩
   have hwR:=A.over_row hw q2 e
   by_cases k1:a.fKind=1
   ·exact absurd (e.symm.trans (A.rowWs_new k1 hwR)) (hA.1 k1 q q1)
   ·have hq:q=zea t a.fOld:=zow.nodupKey (key:=fun w:zaa=>w.fKey) hr q1 (hA.2 k1) (e.symm.trans (A.rowWs_old k1 hwR))
    have hyk:y.fKey=zsq t a x:=by
     rw [q3,hq,zmX A.tab (A.old k1),A.oldK_eq k1,A.name]
    have hon:zsq t a x=zpM t a x:=by
     apply Classical.byContradiction
     intro hc
     have hm:(⟨zsq t a x, [],true⟩:zaa)∈zlX t a x:=by
      unfold zlX
      rw [if_pos ⟨by rw [A.oldK_eq k1];exact zy0 _ _ _ _,hc,hs⟩]
      simp
     exact h2 _ (A.idx_mem hm) hyk.symm
    have k2:a.fKind≠2:=by
     intro k
     have:zpM t a x= []:=by unfold zpM;rw [if_pos k]
     rw [this,A.oldK_eq k1]at hon
     exact zy0 _ _ _ _ hon
    obtain⟨p,p1,p2,p3⟩:=hnew k2
    refine⟨p,p1,p2, ?_⟩
    rw [p3,hyk,hon,A.newK_eq k2,A.name]
theorem zve.keep_lacks (hn: ∀w∈st,w.fGone=false) (hs:2≤x.fStage) (h:NoL t n x st):NoL t n x st':=by
 intro q hq hr
 obtain⟨hgr,hwr⟩:=zjj hr
 obtain⟨hgone,h1|⟨h1,h2⟩⟩:=(hB q).1 hq
 ·obtain⟨e,k⟩:=A.row_write h1 hr
  have hm:(⟨zpM t a x, [],false⟩:zaa)∈zlX t a x:=by
   unfold zlX
   refine List.mem_append.2 (.inr ?_)
   rw [if_pos ⟨by rw [A.newK_eq k];exact zy0 _ _ _ _,hs⟩]
   simp
  refine⟨_,(hB _).2 ⟨rfl, .inl (A.idx_mem hm)⟩, ?_⟩
  show zpM t a x=_
  rw [e,zmX A.tab (A.new k),A.newK_eq k,A.name]
 ·obtain⟨w,w1,w2⟩:=h q h1 hr
  by_cases ho: ∀z∈zhj t a,z.fKey≠w.fKey
  ·exact⟨w,(hB w).2 ⟨hn w w1, .inr ⟨w1,ho⟩⟩,w2⟩
  ·have⟨z,hz,e⟩: ∃z∈zhj t a,z.fKey=w.fKey:=by
    apply Classical.byContradiction
    intro hc
    exact ho fun z hz e=>hc ⟨z,hz,e⟩
   have he:zbO t n z.fKey=true:=by
    rw [e,w2,zm3 A.tab A.let_ hgr (by have:=A.col;omega) A.col.2]
    simp
   rcases A.idx_key (A.entry_write hz he)with⟨e1,k1,_⟩|⟨e1,k2,_⟩
   ·exfalso
    have hk:zdn t n x.fCol a.fOld=zdn t n x.fCol (zd1 q):=by
     have:z.fKey=zsq t a x:=by rw [e1]
     rw [e,w2,A.oldK_eq k1,A.name]at this
     exact this.symm
    have hp:=zvY A.tab A.let_ (A.old k1) hgr hk
    obtain⟨u,u1,u2⟩:=A.rowWs_some k1
    apply h2 u u1
    rw [u2,hwr,zeE,zeE,hp]
   ·exact⟨z,(hB z).2 ⟨by rw [e1], .inl hz⟩,e.trans w2⟩
end
theorem zlf {t:zab} {n:Str} {x:zbs} {st:List zaa}:holds t n x 0 st=true↔NoE t n st:=by
 unfold holds zdA NoE
 rw [if_pos (by rfl)]
 simp only [List.length_map,beq_iff_eq]
 constructor
 ·intro h w hw
  have h0:(st.filter fun w=>zbO t n w.fKey)= []:=List.eq_nil_of_length_eq_zero (by omega)
  have:=List.filter_eq_nil_iff.1 h0 w hw
  simpa using this
 ·intro h
  rw [List.filter_eq_nil_iff.2 fun w hw=>by rw [h w hw];simp]
  rfl
theorem ztk {a b:List Str}:((less a b).length:Int)=0↔ ∀k∈a,k∈b:=by
 unfold less
 constructor
 ·intro h k hk
  have h0:(a.filter fun k=> !b.contains k)= []:=List.eq_nil_of_length_eq_zero (by omega)
  have:=List.filter_eq_nil_iff.1 h0 k hk
  simpa using this
 ·intro h
  rw [List.filter_eq_nil_iff.2 fun k hk=>by simpa using h k hk]
  rfl
theorem zk7 {t:zab} {n:Str} {x:zbs} {st:List zaa} {k:Str}:k∈wanted t n x st↔ ∃q∈st,zbj t q=true∧k=zdn t n x.fCol (zd1 q):=by
 unfold wanted rows
 simp only [List.mem_map,List.mem_filter]
 constructor
 ·rintro⟨r,⟨q,⟨h1,h2⟩,rfl⟩,rfl⟩;exact⟨q,h1,h2,rfl⟩
 ·rintro⟨q,h1,h2,rfl⟩;exact⟨_,⟨q,⟨h1,h2⟩,rfl⟩,rfl⟩
theorem zjs {t:zab} {n:Str} {st:List zaa} {k:Str}:k∈zdA t n st↔ ∃w∈st,zbO t n w.fKey=true∧k=w.fKey:=by
 unfold zdA
 simp only [List.mem_map,List.mem_filter]
 constructor
 ·rintro⟨w,⟨h1,h2⟩,rfl⟩;exact⟨w,h1,h2,rfl⟩
 ·rintro⟨w,h1,h2,rfl⟩;exact⟨w,⟨h1,h2⟩,rfl⟩
theorem zzK {t:zab} {n:Str} {x:zbs} {st:List zaa}:(∀k∈zdA t n st,k∈wanted t n x st)↔NoO t n x st:=by
 constructor
 ·intro h w hw he
  exact zk7.1 (h w.fKey (zjs.2 ⟨w,hw,he,rfl⟩))
 ·intro h k hk
  obtain⟨w,hw,he,rfl⟩:=zjs.1 hk
  exact zk7.2 (h w hw he)
theorem zqs {t:zab} {n:Str} {x:zbs} {st:List zaa}:holds t n x 1 st=true↔NoO t n x st:=by
 rw [←zzK,←ztk]
 unfold holds
 rw [if_neg (by decide)]
 simp
theorem zCJ {t:zab} {a:zaj} {n:Str} {x:zbs} {st:List zaa} (A:zve t a n x):(∀k∈wanted t n x st,k∈zdA t n st)↔NoL t n x st:=by
 constructor
 ·intro h q hq hr
  obtain⟨w,hw,_,e⟩:=zjs.1 (h _ (zk7.2 ⟨q,hq,hr,rfl⟩))
  exact⟨w,hw,e.symm⟩
 ·intro h k hk
  obtain⟨q,hq,hr,rfl⟩:=zk7.1 hk
  obtain⟨w,hw,e⟩:=h q hq hr
  refine zjs.2 ⟨w,hw, ?_,e.symm⟩
  rw [e,zm3 A.tab A.let_ (zjj hr).1 (by have:=A.col;omega) A.col.2]
  simp
theorem zvc {t:zab} {a:zaj} {n:Str} {x:zbs} {st:List zaa} (A:zve t a n x):holds t n x 2 st=true↔NoO t n x st∧NoL t n x st:=by
 rw [←zzK,←zCJ A,←ztk,←ztk]
 unfold holds
 rw [if_neg (by decide)]
 simp
theorem zFp {t:zab} {a:zaj} {n:Str} {x:zbs} {st st':List zaa} {low:Int} (A:zve t a n x) (hg:zbT st=true) (hA:zBu t a st) (hB:zt3 t a st st')
  (hl:low=0∧x.fStage≤1∨low=1∧1≤x.fStage∨low=2∧2≤x.fStage) (h:holds t n x low st=true):holds t n x low st'=true:=by
 obtain⟨hr,hn⟩:=zkx hg
 rcases hl with⟨rfl,hs⟩|⟨rfl,hs⟩|⟨rfl,hs⟩
 ·exact zlf.2 (A.keep_none hB hs (zlf.1 h))
 ·exact zqs.2 (A.keep_orphans hB hr.rise hA hs (zqs.1 h))
 ·have h2:=(zvc A).1 h
  exact(zvc A).2 ⟨A.keep_orphans hB hr.rise hA (by omega) h2.1,A.keep_lacks hB hn hs h2.2⟩
end Go.Proofs.YtbmbkgalkfmjdaaGreatDoor
end
section
namespace Go.Proofs.YtbmbkgalkfmjdaaGreatDoor
open Go.RowKit
set_option maxRecDepth 100000
abbrev ztZ (l:List zaa):Prop:=l.Pairwise fun a b=>a.fKey≠b.fKey
theorem ztM: ∀(l:List zaa) {s:List zaa},ztZ l→zfB s→ ∀y,y∈l.foldl (fun o w=>zgA wk w o) s↔y∈l∨y∈s∧ ∀w∈l,w.fKey≠y.fKey
 | [],s,_,_,y=>by simp
 |x::l,s,hl,hs,y=>by
  unfold ztZ at hl
  rw [List.pairwise_cons]at hl
  rw [List.foldl_cons,ztM l hl.2 (zkd hs),zny hs]
  constructor
  ·rintro(h|⟨h1|h1,h2⟩)
   ·exact .inl (by simp [h])
   ·exact .inl (by simp [h1])
   ·exact .inr ⟨h1.1,fun w hw=>by
     rcases List.mem_cons.1 hw with rfl|hw
     ·exact fun e=>h1.2 e.symm
     ·exact h2 w hw⟩
  ·rintro(h|⟨h1,h2⟩)
   ·rcases List.mem_cons.1 h with rfl|h
    ·exact .inr ⟨.inl rfl,fun w hw e=>hl.1 w hw e.symm⟩
    ·exact .inl h
   ·exact .inr ⟨.inr ⟨h1,fun e=>h2 x (by simp) e.symm⟩,fun w hw=>h2 w (by simp [hw])⟩
theorem zxJ {l:List zaa} (h:zfB l):ztZ l:=List.Pairwise.imp (fun h=>zkp h) h
theorem zuz: ∀(l:List zaa) {s:List zaa},zfB s→zfB (l.foldl (fun o w=>zgA wk w o) s)
 | [],_,h=>h
 |_::l,_,h=>zuz l (zkd h)
theorem zAK {t:zab} {m n:Str} {c d:Int} {r q:zbE} (hg:zad t=true) (hm:za8 m 1=true) (hn:za8 n 1=true) (h:zaq t r=true) (k:zaq t q=true) (hne:m≠n):zdn t m c r≠zdn t n d q:=by
 intro e
 have h1:=zi6 (c:=c) hg hm h
 rw [e,zi6 hg hn k]at h1
 simp only [List.cons.injEq]at h1
 have h2:=h1.1
 unfold head at h2
 exact hne (List.append_cancel_left h2).symm
theorem zrc.apart {t:zab} {a:zaj} (A:zrc t a):ztZ (zhj t a):=by
 unfold ztZ zhj
 rw [List.pairwise_append]
 refine⟨?_, ?_,fun w hw z hz e=> ?_⟩
 ·unfold zno
  split
  ·exact List.pairwise_singleton _ _
  ·split<;>exact List.pairwise_singleton _ _
 ·rw [List.pairwise_flatMap]
  refine⟨fun y hy=> ?_, ?_⟩
  ·unfold zlX
   rw [List.pairwise_append]
   refine⟨?_, ?_,fun w hw z hz e=> ?_⟩
   ·split
    ·exact List.pairwise_singleton _ _
    ·exact List.Pairwise.nil
   ·split
    ·exact List.pairwise_singleton _ _
    ·exact List.Pairwise.nil
   ·split at hw
    ·rename_i h
     rw [List.mem_singleton]at hw
     split at hz
     ·rw [List.mem_singleton]at hz
      rw [hw,hz]at e
      exact h.2.1 e
     ·simp at hz
    ·simp at hw
  ·refine List.Pairwise.imp_of_mem (fun{y z} hy hz hyz w hw u hu e=> ?_) (zte A.tab)
   obtain⟨r,h1,h2,_⟩:=A.idx_entry (n:= []) hy hw
   obtain⟨q,k1,k2,_⟩:=A.idx_entry (n:= []) hz hu
   rw [h2,k2]at e
   exact zAK A.tab (zdT A.tab hy).1 (zdT A.tab hz).1 h1 k1 (zkp hyz) e
 ·obtain⟨r,h1,h2⟩:=A.rowWs_key hw
  obtain⟨y,hy,hz⟩:=List.mem_flatMap.1 hz
  obtain⟨q,k1,k2,_⟩:=A.idx_entry (n:= []) hy hz
  rw [h2,k2]at e
  exact zjf A.tab (zdT A.tab hy).1 h1 k1 e
theorem zrc.behind {t:zab} {a:zaj} (A:zrc t a) {st:List zaa} (hr:zfB st):zt3 t a st (zhv st ((zhj t a).foldl (fun o w=>zgA wk w o) [])):=by
 have hw:zfB ((zhj t a).foldl (fun o w=>zgA wk w o) []):=zuz _ List.Pairwise.nil
 have hm: ∀y,y∈(zhj t a).foldl (fun o w=>zgA wk w o) []↔y∈zhj t a:=fun y=>by
  rw [ztM _ A.apart List.Pairwise.nil]
  simp
 intro y
 unfold zhv
 rw [List.mem_filter,ztM _ (zxJ hw) hr,hm]
 constructor
 ·rintro⟨h|⟨h1,h2⟩,h3⟩
  ·exact⟨by simpa using h3, .inl h⟩
  ·exact⟨by simpa using h3, .inr ⟨h1,fun w hw=>h2 w ((hm w).2 hw)⟩⟩
 ·rintro⟨h3,h|⟨h1,h2⟩⟩
  ·exact⟨.inl h,by simpa using h3⟩
  ·exact⟨.inr ⟨h1,fun w hw=>h2 w ((hm w).1 hw)⟩,by simpa using h3⟩
def opW (o:DOp):zaa:=if o.fKind=3 then⟨o.fKey, [],true⟩else⟨o.fKey,o.fVal,false⟩
theorem zAW (t:zab) (a:zaj) (x:zbs):(zh9 t a x).map opW=zlX t a x:=by
 unfold zh9 zlX zoA zs0
 rw [List.map_append]
 congr 1
 ·split<;>rfl
 ·split<;>rfl
theorem zqK {α β:Type} (f:α→List β): ∀(xs:List α) (a:List β),xs.foldl (fun a x=>a++f x) a=a++xs.flatMap f
 | [],a=>by simp
 |x::xs,a=>by rw [List.foldl_cons,zqK f xs,List.flatMap_cons,List.append_assoc]
theorem zvK (t:zab) (a:zaj): ∃o rest,ziP t a=o::rest∧rest.map opW=zhj t a∧(∀p∈rest,p.fKind=2∨p.fKind=3)∧
  (a.fKind=1→o=⟨6,(zea t a.fNew).fKey, [],0⟩)∧(a.fKind≠1→o=⟨7,(zea t a.fOld).fKey,(zea t a.fOld).fVal,0⟩):=by
 have hi: ∀p∈t.fIdxs.flatMap (zh9 t a),p.fKind=2∨p.fKind=3:=by
  intro p hp
  obtain⟨y,_,hp⟩:=List.mem_flatMap.1 hp
  unfold zh9 zoA zs0 at hp
  rcases List.mem_append.1 hp with hp|hp
  ·split at hp
   ·rw [List.mem_singleton]at hp;subst hp;exact .inr rfl
   ·simp at hp
  ·split at hp
   ·rw [List.mem_singleton]at hp;subst hp;exact .inl rfl
   ·simp at hp
 have hw:(t.fIdxs.flatMap (zh9 t a)).map opW=t.fIdxs.flatMap (zlX t a):=by
  rw [List.map_flatMap]
  congr 1
  funext y
  exact zAW t a y
 unfold ziP zhj zno
 rw [zqK]
 unfold zjP
 by_cases h1:a.fKind=1
 ·rw [if_pos h1,if_pos h1]
  refine⟨_,_,rfl, ?_,fun p hp=> ?_,fun _=>rfl,fun k=>absurd h1 k⟩
  ·show opW _::(t.fIdxs.flatMap (zh9 t a)).map opW=_
   rw [hw];rfl
  ·rcases List.mem_cons.1 hp with rfl|hp
   ·exact .inl rfl
   ·exact hi p hp
 ·rw [if_neg h1,if_neg h1]
  by_cases h2:a.fKind=2
  ·rw [if_pos h2,if_pos h2]
   refine⟨_,_,rfl, ?_,fun p hp=> ?_,fun k=>absurd k h1,fun _=>rfl⟩
   ·show opW _::(t.fIdxs.flatMap (zh9 t a)).map opW=_
    rw [hw];rfl
   ·rcases List.mem_cons.1 hp with rfl|hp
    ·exact .inr rfl
    ·exact hi p hp
  ·rw [if_neg h2,if_neg h2]
   refine⟨_,_,rfl, ?_,fun p hp=> ?_,fun k=>absurd k h1,fun _=>rfl⟩
   ·show opW _::(t.fIdxs.flatMap (zh9 t a)).map opW=_
    rw [hw];rfl
   ·rcases List.mem_cons.1 hp with rfl|hp
    ·exact .inl rfl
    ·exact hi p hp
end Go.Proofs.YtbmbkgalkfmjdaaGreatDoor
end
section
namespace Go.Proofs.YtbmbkgalkfmjdaaGreatDoor
open Go.RowKit
set_option maxRecDepth 100000
theorem zor {got:List zgp}: ∀(l:List DOp) (ws:List zaa),(∀p∈l,p.fKind=2∨p.fKind=3)→zfQ got l ws=(3, [],(l.map opW).foldl (fun o w=>zgA wk w o) ws)
 | [],ws,_=>rfl
 |o::l,ws,h=>by
  have hl: ∀p∈l,p.fKind=2∨p.fKind=3:=fun p hp=>h p (by simp [hp])
  rw [zfQ,List.map_cons,List.foldl_cons]
  rcases h o (by simp)with k|k
  ·rw [if_pos k,zor l _ hl]
   unfold opW
   rw [if_neg (by omega)]
  ·rw [if_neg (by omega),if_pos k,zor l _ hl]
   unfold opW
   rw [if_pos k]
theorem zy3 {st:List zaa} {o:DOp} {rest:List DOp} (h2:o.fKind≠2) (h3:o.fKind≠3) (hr: ∀p∈rest,p.fKind=2∨p.fKind=3):
  zqA st (o::rest)=if zuf o (zcA st o.fKey).fVal (zcA st o.fKey).fThere=true then((rest.map opW).foldl (fun o w=>zgA wk w o) [],true)else([],false):=by
 have hgk:(zcA st o.fKey).fKey=o.fKey:=by
  unfold zcA
  cases st.find? (fun w=>w.fKey==o.fKey)<;>rfl
 have hs1:zfQ [] (o::rest) []=(1,o.fKey, []):=by
  rw [zfQ,if_neg h2,if_neg h3,if_neg (by simp [zcB,zuW])]
 have hst:zcB [] [zcA st o.fKey] o.fKey=((zcA st o.fKey).fVal,(zcA st o.fKey).fThere,true):=by
  unfold zcB zuW
  rw [List.find?_nil,List.find?_cons,show((zcA st o.fKey).fKey==o.fKey)=true by rw [hgk];simp]
 have hs2:zfQ [zcA st o.fKey] (o::rest) []=if zuf o (zcA st o.fKey).fVal (zcA st o.fKey).fThere=true then(3, [],(rest.map opW).foldl (fun o w=>zgA wk w o) [])else(2, [], []):=by
  rw [zfQ,if_neg h2,if_neg h3,hst,if_pos rfl,zor rest [] hr]
 unfold zqA
 rw [zBJ,hs1,if_pos rfl,zBJ]
 show(if(zfQ [zcA st o.fKey] (o::rest) []).1=1 then _ else((zfQ [zcA st o.fKey] (o::rest) []).2.2,(zfQ [zcA st o.fKey] (o::rest) []).1==3))=_
 rw [hs2]
 by_cases hk:zuf o (zcA st o.fKey).fVal (zcA st o.fKey).fThere=true
 ·rw [if_pos hk,if_pos hk,if_neg (by simp)];rfl
 ·rw [if_neg hk,if_neg hk,if_neg (by simp)];rfl
theorem zxy {t:zab} {a:zaj} (A:zrc t a) {st:List zaa} (hg:zbT st=true) (h:(ziu st (ziP t a)).2=true):zBu t a st∧zt3 t a st (ziu st (ziP t a)).1:=by
 obtain⟨hr,hn⟩:=zkx hg
 obtain⟨o,rest,e,hw,hk,h1,h7⟩:=zvK t a
 have hk67:o.fKind=6∨o.fKind=7:=by
  by_cases k:a.fKind=1
  ·rw [h1 k];exact .inl rfl
  ·rw [h7 k];exact .inr rfl
 have hR:=zy3 (st:=st) (o:=o) (rest:=rest) (by omega) (by omega) hk
 rw [e]at h ⊢
 unfold ziu at h ⊢
 rw [hR]at h ⊢
 by_cases hok:zuf o (zcA st o.fKey).fVal (zcA st o.fKey).fThere=true
 ·rw [if_pos hok,hw]at h ⊢
  by_cases hl:(zhv st ((zhj t a).foldl (fun o w=>zgA wk w o) [])).length≤24
  ·rw [if_pos ⟨rfl,hl⟩]
   refine⟨⟨fun k w hm he=> ?_,fun k=> ?_⟩,A.behind hr.rise⟩
   ·rw [h1 k]at hok
    unfold zuf zcA at hok
    rw [if_pos rfl]at hok
    cases ef:st.find? (fun w=>w.fKey==(zea t a.fNew).fKey)with
    |some z=>rw [ef]at hok;cases hok
    |none=>
     rw [List.find?_eq_none]at ef
     exact absurd (by simpa using he) (ef w hm)
   ·rw [h7 k]at hok
    unfold zuf zcA at hok
    rw [if_neg (by simp)]at hok
    cases ef:st.find? (fun w=>w.fKey==(zea t a.fOld).fKey)with
    |none=>rw [ef]at hok;cases hok
    |some z=>
     rw [ef]at hok
     simp only [Bool.true_and,beq_iff_eq]at hok
     have hz:=List.mem_of_find?_eq_some ef
     have hzk:z.fKey=(zea t a.fOld).fKey:=by simpa using List.find?_some ef
     have hzg:=hn z hz
     have:z=zea t a.fOld:=by
      cases z
      simp only at hok hzk hzg
      rw [hok,hzk,hzg]
      rfl
     rw [←this];exact hz
  ·rw [if_neg fun q=>hl q.2]at h
   cases h
 ·rw [if_neg hok]at h
  rw [if_neg (by simp)]at h
  cases h
theorem zst {t:zab} {a:zaj} {n:Str} {x:zbs} {st:List zaa} {low:Int} (A:zve t a n x) (hg:zbT st=true) (hl:low=0∧x.fStage≤1∨low=1∧1≤x.fStage∨low=2∧2≤x.fStage)
  (h:holds t n x low st=true):holds t n x low (ziu st (ziP t a)).1=true:=by
 cases hd:(ziu st (ziP t a)).2 with
 |true=>
  obtain⟨hA,hB⟩:=zxy A.asG hg hd
  exact zFp A hg hA hB hl h
 |false=>
  have:(ziu st (ziP t a)).1=st:=by
   unfold ziu at hd ⊢
   split at hd
   ·cases hd
   ·rename_i q;rw [if_neg q]
  rw [this];exact h
end Go.Proofs.YtbmbkgalkfmjdaaGreatDoor
end
section
namespace Go.Proofs.YtbmbkgalkfmjdaaGreatDoor
open Go.RowKit
set_option maxRecDepth 100000
def zt8 (t:zab) (st:List zaa) (a:zaj):List zaa × Bool × Bool:=if(zad t&&(zdm t a&&zbT st))=true then((ziu st (ziP t a)).1,(ziu st (ziP t a)).2,true)else([],false,false)
theorem zvm {t:zab} {a:zaj} (hS:zcH t) (hA:zjW a):zgX t a=some (zad t&&zdm t a):=by
 unfold zgX
 rw [zwr hS,Option.bind_some]
 cases hg:zad t with
 |false=>rfl
 |true=>rw [if_pos rfl,zw7 (by have:=zgT hg;omega) hA];rfl
theorem zvE {t:zab} {a:zaj} (hS:zcH t) (hA:zjW a):zfi t a=some (zad t&&zdm t a):=by
 unfold zfi
 rw [zs9 hS,Option.bind_some]
 cases hg:zad t with
 |false=>rfl
 |true=>rw [if_pos rfl,zxx (by have:=zgT hg;omega) hA];rfl
theorem zzP (t:zab) (st:List zaa) (a:zaj):zt8 t st a=if(zad t&&zdm t a)=true then(if zbT st=true then((ziu st (ziP t a)).1,(ziu st (ziP t a)).2,true)else([],false,false))else([],false,false):=by
 unfold zt8
 cases zad t<;>cases zdm t a<;>cases zbT st<;>rfl
theorem zCO {t:zab} {st:List zaa} {a:zaj} (hS:zcH t) (hW:zmR st) (hA:zjW a):zif t st a=some (zt8 t st a):=by
 rw [zzP]
 unfold zif
 rw [zvm hS hA,Option.bind_some]
 by_cases hg:(zad t&&zdm t a)=true
 ·rw [if_pos hg,if_pos hg,zyF hW,Option.bind_some]
  rw [Bool.and_eq_true]at hg
  by_cases hr:zbT st=true
  ·obtain⟨ol,oo⟩:=zww hg.1 hg.2
   have hai:=zD5 hA hg.2
   rw [if_neg (by simp [hr]),if_pos hr,zDR hS hg.1 hai,Option.bind_some,zzR ol oo hr];rfl
  ·rw [if_pos (by simpa using hr),if_neg hr]
 ·rw [if_neg hg,if_neg hg]
theorem zr7 {l:List zaa} (h:zbT l=true):zmR l:=by
 have hr:=(zkx h).1
 have:=hr.len
 exact ztD (by omega) hr.good
def zpy (t:zab) (n:Str) (lv:Int) (l:List zaa):Bool × Bool:=if(ztT t n l&&inB lv 0 2)=true then(holds t n (xOf t n) lv l,true)else(false,false)
theorem zvB (t:zab) (n:Str) (lv:Int) (l:List zaa):zpy t n lv l=if ztT t n l=true then(if inB lv 0 2=true then(holds t n (xOf t n) lv l,true)else(false,false))else(false,false):=by
 unfold zpy
 cases ztT t n l<;>cases inB lv 0 2<;>rfl
theorem zzQ {t:zab} {n:Str} {lv:Int} {l:List zaa} (hS:zcH t) (hW:zmR l):zg1 t n lv l=some (zpy t n lv l):=by
 rw [zvB]
 unfold zg1
 rw [zAt hS hW,Option.bind_some]
 by_cases ha:ztT t n l=true
 ·rw [if_pos ha,if_pos ha,zfX,Option.bind_some]
  by_cases hb:inB lv 0 2=true
  ·rw [if_neg (by simp [hb]),if_pos hb]
   have ha2:=ha
   unfold ztT at ha2
   simp only [Bool.and_eq_true]at ha2
   obtain⟨x,hx,h1,h2,h3⟩:=zBP ha2.1
   rw [zAI hS h1 (by omega) h3 hx hW.1 (zCQ ha2.2),zBL hx];rfl
  ·rw [if_pos (by simpa using hb),if_neg hb]
 ·rw [if_neg ha,if_neg ha]
theorem zBd {t:zab} {c:Int} (hS:zcH t): ∃r,zgY t c=some r∧zcH r.1∧r.2.1.length≤2000000∧(r.2.2=true→ ∃x,t.fIdxs[0]?=some x∧r.2.1=x.fName∧znE t x.fName=true∧inB c 0 3=true∧r.1=zgl t (kOf t x.fName) c)∧(r.2.2=false→t.fIdxs.length=0∨zad t=false∨inB c 0 3=false):=by
 have hno:zcH ⟨[], [], []⟩:=⟨by simp,by simp,by simp,by simp,by simp⟩
 unfold zgY
 by_cases h0:t.fIdxs.length=0
 ·rw [if_pos (by simp [h0])]
  exact⟨_,rfl,hno,by simp,(fun h=>by cases h),fun _=> .inl h0⟩
 ·have hpos:0<t.fIdxs.length:=by omega
  have hx:t.fIdxs[0]?=some t.fIdxs[0]:=List.getElem?_eq_getElem hpos
  have hm:=List.getElem_mem hpos
  have hn:=hS.idx _ hm
  rw [if_neg (by simpa using h0),show getI t.fIdxs 0=some t.fIdxs[0]from zam hpos,Option.bind_some]
  unfold zhW zhZ
  rw [zs9 hS,Option.bind_some]
  by_cases hg:zad t=true
  ·have hk:zhw (fun x:zbs=>x.fName==t.fIdxs[0].fName) t.fIdxs≥0:=by
    have:=zjb (fun y:zbs=>y.fName==t.fIdxs[0].fName) t.fIdxs
    rw [show(t.fIdxs.any fun y=>y.fName==t.fIdxs[0].fName)=true from List.any_eq_true.2 ⟨_,hm,by simp⟩]at this
    simpa using this
   have hI:znE t t.fIdxs[0].fName=true:=by
    unfold znE
    rw [hg,decide_eq_true hk];rfl
   rw [if_pos hg,zwC hS,Option.bind_some,if_pos (decide_eq_true hk),zmO,Option.bind_some,Option.bind_some]
   by_cases hc:inB c 0 3=true
   ·rw [if_neg (by simp [hc]),zx3 hS (zsQ hg hm),Option.bind_some,Option.bind_some]
    exact⟨_,rfl,zvL hS,hn,(fun _=>⟨_,hx,rfl,hI,hc,rfl⟩),fun h=>by cases h⟩
   ·rw [if_pos (by simpa using hc),Option.bind_some]
    exact⟨_,rfl,hno,hn,(fun h=>by cases h),fun _=> .inr (.inr (by simpa using hc))⟩
  ·rw [if_neg hg,Option.bind_some,if_pos (show(!false)=true from rfl),Option.bind_some]
   exact⟨_,rfl,hno,hn,(fun h=>by cases h),fun _=> .inr (.inl (by simpa using hg))⟩
end Go.Proofs.YtbmbkgalkfmjdaaGreatDoor
end
section
namespace Go.Proofs.YtbmbkgalkfmjdaaGreatDoor
open Go.RowKit
set_option maxRecDepth 100000
def zFT (a:zaj):Bool:=((a.fKind==0)&&((a.fOld.fVals.length:Int)==0))&&((a.fNew.fVals.length:Int)==0)
structure zEN (s:zaI) (a:zd7):Prop where
 srv:0≤a.fServer∧a.fServer≤(s.fAt.length:Int)-1
 step:a.fStep=0∨a.fStep=1∨a.fStep= -1
 act:a.fStep=0→ ∃y t,getI s.fAt a.fServer=some y∧getI s.fWays y=some t∧t∈s.fWays∧zdm t a.fAct=true
theorem zn5 {t:zab} {n:Str} (h:znE t n=true):zad t=true:=by
 unfold znE at h
 simp only [Bool.and_eq_true]at h
 exact h.1
def zDA (s:zaI) (i:Int):zab:=(getI s.fWays ((getI s.fAt i).getD 0)).getD noT
structure zFm (s r:zaI):Prop where
 good:zAX r
 small:zBB r
 name:r.fName=s.fName
 ways:r.fWays=s.fWays
 at_:r.fAt.length=s.fAt.length
def zFq:zaI:=⟨[], [], [], []⟩
end Go.Proofs.YtbmbkgalkfmjdaaGreatDoor
end
section
namespace Go.Proofs.YtbmbkgalkfmjdaaGreatDoor
open Go.RowKit
set_option maxRecDepth 100000
end Go.Proofs.YtbmbkgalkfmjdaaGreatDoor
end
section
namespace Go.Proofs.YtbmbkgalkfmjdaaGreatDoor
open Go.RowKit
set_option maxRecDepth 100000
theorem zvk {t:zab} {n:Str} (h:znE t n=true):zht t n (xOf t n)∧zhd t n=(xOf t n).fStage∧xOf t n∈t.fIdxs∧0≤zhd t n∧zhd t n≤3∧zad t=true:=by
 obtain⟨x,hx,e,h0,h3,hg⟩:=zCu h
 rw [zBL hx]
 exact⟨hx,e,zwT hx.at_,by omega,by omega,hg⟩
theorem zs6 {n:Str}: ∀l:List zbs,zhw (fun x:zbs=>x.fName==n) l=zhw (· ==n) (l.map (·.fName))
 | []=>rfl
 |x::l=>by rw [List.map_cons,ziZ,ziZ,zs6 l]
theorem zCm (t:zab) (n:Str) (k c:Int):kOf (zgl t k c) n=kOf t n:=by
 unfold kOf
 rw [zs6,zs6,zmg]
theorem zzX {t:zab} {n:Str} {c:Int} (h:znE t n=true):xOf (zgl t (kOf t n) c) n={xOf t n with fStage:=c}:=by
 have hx:=(zvk h).1
 have hl:=(znM hx.at_).2.2
 have h0:=(znM hx.at_).1
 have hk:(kOf t n).toNat<t.fIdxs.length:=by
  have:zhw (fun y:zbs=>y.fName==n) t.fIdxs=kOf t n:=rfl
  rw [this]at hl h0
  omega
 unfold xOf
 rw [zCm]
 unfold zgl
 dsimp only
 rw [List.getElem?_set_self hk]
 rfl
theorem zzk {t:zab} {n:Str} {c:Int} (h:znE t n=true):zhd (zgl t (kOf t n) c) n=c:=by
 have:zhd (zgl t (kOf t n) c) n=(xOf (zgl t (kOf t n) c) n).fStage:=rfl
 rw [this,zzX h]
theorem zlo {t t':zab} {n:Str} {x x':zbs} {lv:Int} {st:List zaa} (h1:t.fName=t'.fName) (h2:t.fCols=t'.fCols) (h3:x.fCol=x'.fCol):holds t n x lv st=holds t' n x' lv st:=by
 cases t;cases t';cases x;cases x'
 dsimp only at h1 h2 h3
 subst h1;subst h2;subst h3
 rfl
end Go.Proofs.YtbmbkgalkfmjdaaGreatDoor
end
section
namespace Go.Proofs.YtbmbkgalkfmjdaaGreatDoor
open Go.RowKit
set_option maxRecDepth 100000
def zuT (t:zab) (st:List zaa):List zaa:=st.filter (zbj t)
theorem zg8 {t:zab} {st:List zaa} {w:zaa}:w∈zuT t st↔w∈st∧zbj t w=true:=List.mem_filter
theorem zkZ (t:zab) (st:List zaa):rows t st=(zuT t st).map zd1:=rfl
theorem zgu {t:zab} {st:List zaa} (h:zfB st):zfB (zuT t st):=zow.filter h _
theorem ztQ {l:List zaa} {w:zaa} (h: ∀y∈l,y.fKey≠w.fKey):(zgA wk w l).length=l.length+1:=by
 induction l with
 |nil=>rfl
 |cons y l ih=>
  rw [zgA]
  split
  ·rfl
  ·split
   ·rename_i e;exact absurd e.symm (h y (by simp))
   ·rw [List.length_cons,ih fun z hz=>h z (by simp [hz]),List.length_cons]
theorem zur {l:List zaa} {w:zaa} (hl:zfB l) (h: ∃y∈l,y.fKey=w.fKey):(zgA wk w l).length=l.length:=by
 induction l with
 |nil=>obtain⟨y,hy,_⟩:=h;simp at hy
 |cons y l ih=>
  obtain⟨r1,r2⟩:=zj9 hl
  obtain⟨z,hz,e⟩:=h
  rw [zgA]
  split
  ·rename_i hb
   exfalso
   rcases List.mem_cons.1 hz with rfl|hz
   ·exact zkp hb e.symm
   ·exact zkp (zfn hb (r1 z hz)) e.symm
  ·split
   ·rfl
   ·rename_i hne
    rw [List.length_cons,List.length_cons,ih r2]
    rcases List.mem_cons.1 hz with rfl|hz
    ·exact absurd e.symm hne
    ·exact⟨z,hz,e⟩
theorem zu7 {l:List zaa} {k:Str} (hl:zfB l) (h: ∃y∈l,y.fKey=k):(l.filter fun w=>w.fKey !=k).length+1=l.length:=by
 induction l with
 |nil=>obtain⟨y,hy,_⟩:=h;simp at hy
 |cons y l ih=>
  obtain⟨r1,r2⟩:=zj9 hl
  rw [List.filter_cons]
  by_cases hy:y.fKey=k
  ·rw [if_neg (by simp [hy]),List.filter_eq_self.2 fun z hz=>by
    have:=zkp (r1 z hz)
    rw [hy]at this
    simpa using fun e=>this e.symm]
   rfl
  ·rw [if_pos (by simpa using hy),List.length_cons,List.length_cons]
   obtain⟨z,hz,e⟩:=h
   rcases List.mem_cons.1 hz with rfl|hz
   ·exact absurd e hy
   ·have:=ih r2 ⟨z,hz,e⟩
    omega
structure zDL (t:zab) (a:zaj) (st st':List zaa):Prop where
 act:zrc t a
 beh:zt3 t a st st'
 rise:zfB st
 rise':zfB st'
 gone: ∀w∈st,w.fGone=false
 ahead:zBu t a st
section
variable {t:zab} {a:zaj} {st st':List zaa} (H:zDL t a st st')
include H
theorem zDL.rows_put (k:a.fKind≠2):zuT t st'=zgA wk (zea t a.fNew) (zuT t st):=by
 refine zow.ext (key:=wk) (zgu H.rise') (zkd (zgu H.rise)) fun y=> ?_
 rw [zny (zgu H.rise),zg8,zg8,H.beh y]
 have hnew:=H.act.new_mem k
 constructor
 ·rintro⟨⟨hg,h|⟨h1,h2⟩⟩,h3⟩
  ·exact .inl (H.act.row_write h h3).1
  ·exact .inr ⟨⟨h1,h3⟩,fun e=>h2 _ hnew e.symm⟩
 ·rintro(rfl|⟨⟨h1,h2⟩,h3⟩)
  ·exact⟨⟨rfl, .inl hnew⟩,zzZ H.act.tab (H.act.new k)⟩
  ·refine⟨⟨H.gone y h1, .inr ⟨h1,fun w hw e=> ?_⟩⟩,h2⟩
   have hwR:=H.act.over_row hw h2 e
   apply h3
   rw [←e]
   by_cases k1:a.fKind=1
   ·exact H.act.rowWs_new k1 hwR
   ·have k3:a.fKind=3:=by rcases H.act.kind with h|h|h;exact absurd h k1;exact absurd h k;exact h
    show w.fKey=(zea t a.fNew).fKey
    rw [H.act.rowWs_old k1 hwR,zeE,zeE,H.act.same k3]
theorem zDL.rows_drop (k:a.fKind=2):zuT t st'=(zuT t st).filter fun w=>w.fKey !=(zea t a.fOld).fKey:=by
 refine zow.ext (key:=wk) (zgu H.rise') (zow.filter (zgu H.rise) _) fun y=> ?_
 rw [List.mem_filter,zg8,zg8,H.beh y]
 constructor
 ·rintro⟨⟨hg,h|⟨h1,h2⟩⟩,h3⟩
  ·exact absurd k (H.act.row_write h h3).2
  ·obtain⟨u,u1,u2⟩:=H.act.rowWs_some (show a.fKind≠1 by omega)
   refine⟨⟨h1,h3⟩, ?_⟩
   have:=h2 u u1
   rw [u2]at this
   simpa using fun e=>this e.symm
 ·rintro⟨⟨h1,h2⟩,h3⟩
  refine⟨⟨H.gone y h1, .inr ⟨h1,fun w hw e=> ?_⟩⟩,h2⟩
  have hwR:=H.act.over_row hw h2 e
  have:=H.act.rowWs_old (show a.fKind≠1 by omega) hwR
  rw [e]at this
  simp [this]at h3
theorem zDL.fresh {r:zbE} (h1:r∈rows t st') (h2:r∉rows t st):r=a.fNew∧a.fKind≠2:=by
 rw [zkZ,List.mem_map]at h1
 obtain⟨q,hq,rfl⟩:=h1
 obtain⟨hq1,hq2⟩:=zg8.1 hq
 obtain⟨_,h|⟨h3,_⟩⟩:=(H.beh q).1 hq1
 ·obtain⟨e,k⟩:=H.act.row_write h hq2
  exact⟨by rw [e,zmX H.act.tab (H.act.new k)],k⟩
 ·exact absurd (by rw [zkZ,List.mem_map];exact⟨q,zg8.2 ⟨h3,hq2⟩,rfl⟩) h2
theorem zDL.rows_len:(a.fKind=1→(rows t st').length=(rows t st).length+1)∧(a.fKind=2→(rows t st').length+1=(rows t st).length)∧(a.fKind=3→(rows t st').length=(rows t st).length):=by
 have hold:a.fKind≠1→zea t a.fOld∈zuT t st:=fun k=>zg8.2 ⟨H.ahead.2 k,zzZ H.act.tab (H.act.old k)⟩
 refine⟨fun k=> ?_,fun k=> ?_,fun k=> ?_⟩
 ·rw [zkZ,zkZ,List.length_map,List.length_map,H.rows_put (by omega),ztQ fun y hy=>H.ahead.1 k y (zg8.1 hy).1]
 ·rw [zkZ,zkZ,List.length_map,List.length_map,H.rows_drop k]
  exact zu7 (zgu H.rise) ⟨_,hold (by omega),rfl⟩
 ·rw [zkZ,zkZ,List.length_map,List.length_map,H.rows_put (by omega)]
  refine zur (zgu H.rise) ⟨_,hold (by omega), ?_⟩
  rw [zeE,zeE,H.act.same k]
end
end Go.Proofs.YtbmbkgalkfmjdaaGreatDoor
end
section
namespace Go.Proofs.YtbmbkgalkfmjdaaGreatDoor
open Go.RowKit
set_option maxRecDepth 100000
theorem zzn (t:zab) (k c:Int) (j:Nat): ∃s,((zgl t k c).fIdxs[j]?).getD ⟨[],0,0⟩={((t.fIdxs[j]?).getD ⟨[],0,0⟩)with fStage:=s}∧(s=((t.fIdxs[j]?).getD ⟨[],0,0⟩).fStage∨s=c):=by
 unfold zgl
 dsimp only
 rw [List.getElem?_set]
 split
 ·rename_i h
  subst h
  split
  ·exact⟨c,rfl, .inr rfl⟩
  ·rename_i h2
   rw [List.getElem?_eq_none (by omega)]
   exact⟨0,rfl, .inl rfl⟩
 ·exact⟨_,rfl, .inl rfl⟩
theorem zAo {t:zab} {k c:Int} (h:zad t=true) (hc:inB c 0 3=true):zad (zgl t k c)=true:=by
 have hl:(zgl t k c).fIdxs.length=t.fIdxs.length:=by unfold zgl;simp
 unfold zad at h ⊢
 simp only [Bool.and_eq_true]at h ⊢
 obtain⟨⟨⟨h1,h2⟩,h3⟩,h4⟩:=h
 refine⟨⟨⟨h1,h2⟩,by rw [hl];exact h3⟩, ?_⟩
 rw [hl]
 rw [List.all_eq_true]at h4 ⊢
 intro i hi
 have hq:=h4 i hi
 unfold zl3 at hq ⊢
 obtain⟨s,e,hs⟩:=zzn t k c i
 obtain⟨s',e',_⟩:=zzn t k c (i-1)
 dsimp only at hq ⊢
 rw [e,e']
 simp only [Bool.and_eq_true]at hq ⊢
 refine⟨⟨⟨hq.1.1.1,hq.1.1.2⟩, ?_⟩,hq.2⟩
 rcases hs with rfl|rfl
 ·exact hq.1.2
 ·exact hc
theorem zx7 {t:zab} {n:Str} {c:Int} (h:znE t n=true) (hc:inB c 0 3=true):znE (zgl t (kOf t n) c) n=true:=by
 unfold znE at h ⊢
 rw [Bool.and_eq_true]at h ⊢
 exact⟨zAo h.1 hc,by rw [zzC (n:=n) (zmg t (kOf t n) c)];exact h.2⟩
end Go.Proofs.YtbmbkgalkfmjdaaGreatDoor
end
section
namespace Go.Proofs.YtbmbkgalkfmjdaaGreatDoor
open Go.RowKit
set_option maxRecDepth 100000
set_option maxHeartbeats 1000000
theorem zCd {r:zah} (hg:zjk r) (h:sound r=true) {i:Nat} (hi:i<r.fLeases.length) (hu:zn6 r i=true):r.fVer-1≤((r.fLeases[i]?).getD ⟨0,0⟩).fVer:=by
 have hs:=zkY.1 h
 have hj2:i<r.fClocks.length:=by have:=hg.len;omega
 have:=hg.cl _ (List.getElem_mem hj2)
 simp only [zn6,Int.toNat_natCast,List.getElem?_eq_getElem hi,List.getElem?_eq_getElem hj2,decide_eq_true_eq]at hu
 have h2:=hs _ (List.getElem_mem hi)
 rw [List.getElem?_eq_getElem hi,Option.getD_some]
 omega
theorem zzG {r:zah} (hg:zjk r) {i:Nat} (hi:i<r.fLeases.length):0≤((r.fLeases[i]?).getD ⟨0,0⟩).fVer∧((r.fLeases[i]?).getD ⟨0,0⟩).fVer≤r.fVer:=by
 have:=hg.ls _ (List.getElem_mem hi)
 rw [List.getElem?_eq_getElem hi,Option.getD_some]
 exact⟨this.1,this.2.1⟩
theorem zA5 {r:zah} {a:zal}:(doN r a).1.fClocks.length=r.fClocks.length∧((doN r a).1.fVer=r.fVer∨(doN r a).1.fVer=r.fVer+1∧a.fKind≠1∧a.fKind≠2∧a.fKind≠3):=by
 unfold doN
 split
 ·split<;>exact⟨rfl, .inl rfl⟩
 ·split
  ·split
   ·exact⟨rfl, .inl rfl⟩
   ·exact⟨List.length_set, .inl rfl⟩
  ·split
   ·split<;>exact⟨rfl, .inl rfl⟩
   ·rename_i h1 h2 h3
    split
    ·exact⟨rfl, .inr ⟨rfl,h1,h2,h3⟩⟩
    ·exact⟨rfl, .inl rfl⟩
def zAe (t0:zab) (n:Str) (x0:zbs) (v:Int) (st:List zaa):Prop:=zbT st=true∧(v≤1→holds t0 n x0 0 st=true)∧holds t0 n x0 1 st=true
theorem zws {t0:zab} {n:Str} {x0:zbs} {st:List zaa} (h:holds t0 n x0 0 st=true):holds t0 n x0 1 st=true:=by
 refine zqs.2 fun w hw he=> ?_
 rw [zlf.1 h w hw]at he
 cases he
theorem zAe.raise {t0:zab} {n:Str} {x0:zbs} {v u:Int} {st:List zaa} (h:zAe t0 n x0 v st) (hu:v≤u):zAe t0 n x0 u st:=⟨h.1,fun k=>h.2.1 (by omega),h.2.2⟩
theorem zAe.act {t t0:zab} {n:Str} {x x0:zbs} {b:zaj} {v:Int} {st:List zaa} (h:zAe t0 n x0 v st) (A:zve t b n x) (hga:zdm t b=true) (h1:t.fName=t0.fName) (h2:t.fCols=t0.fCols) (h3:x.fCol=x0.fCol) (hv:v-1≤x.fStage) (hv2:x.fStage≤v):
  zAe t0 n x0 v (ziu st (ziP t b)).1:=by
 obtain⟨g,e,o⟩:=h
 obtain⟨ol,oo⟩:=zww A.tab hga
 have k0:v≤1→holds t0 n x0 0 (ziu st (ziP t b)).1=true:=fun hv1=>by
  have:=zst (low:=0) A g (.inl ⟨rfl,by omega⟩) (by rw [zlo h1 h2 h3];exact e hv1)
  rw [zlo h1 h2 h3]at this
  exact this
 refine⟨zBr ol oo g,k0, ?_⟩
 by_cases hv1:v≤1
 ·exact zws (k0 hv1)
 ·have:=zst (low:=1) A g (.inr (.inl ⟨rfl,by omega⟩)) (by rw [zlo h1 h2 h3];exact o)
  rw [zlo h1 h2 h3]at this
  exact this
theorem zCj {t0:zab} {n:Str} {x0:zbs} {v:Int}:zAe t0 n x0 v []:=by
 have h0:holds t0 n x0 0 []=true:=zlf.2 fun w hw=>by simp at hw
 exact⟨by decide,fun _=>h0,zws h0⟩
end Go.Proofs.YtbmbkgalkfmjdaaGreatDoor
end
section
namespace Go.Proofs.YtbmbkgalkfmjdaaGreatDoor
open Go.RowKit
set_option maxRecDepth 100000
def zwW:List zfh→Nat→Nat→List zaa→Str→List zaa × Nat × Str
 | [],_,n,st,last=>(st,n,last)
 |_::_,0,n,st,last=>(st,n,last)
 |k::ks,m+1,n,st,last=>if(ziu st k.fops).2=true then zwW ks m (n+1) (ziu st k.fops).1 k.fkey else(st,n,last)
def behind (last k:Str):Bool:= !(Op.bytesLess k last||k==last)
def zBS (ks:List zfh) (f:za2) (m:Nat) (st:List zaa):List zaa × za2:=((zwW (ks.filter fun k=>behind f.fLast k.fkey) m 0 st f.fLast).1,⟨(zwW (ks.filter fun k=>behind f.fLast k.fkey) m 0 st f.fLast).2.2,f.fOver||((zwW (ks.filter fun k=>behind f.fLast k.fkey) m 0 st f.fLast).2.1==(ks.filter fun k=>behind f.fLast k.fkey).length)⟩)
end Go.Proofs.YtbmbkgalkfmjdaaGreatDoor
end
section
namespace Go.Proofs.YtbmbkgalkfmjdaaGreatDoor
open Go.RowKit
set_option maxRecDepth 100000
def zE7 (t:zab) (x:zbs) (r:zbE):zfh:=⟨(zea t r).fKey, [⟨7,(zea t r).fKey,(zea t r).fVal,0⟩,⟨2,zdn t x.fName x.fCol r, [],0⟩]⟩
def zEk (k:Str):zfh:=⟨k, [⟨3,k, [],0⟩]⟩
end Go.Proofs.YtbmbkgalkfmjdaaGreatDoor
end
section
namespace Go.Proofs.YtbmbkgalkfmjdaaGreatDoor
open Go.RowKit
set_option maxRecDepth 100000
end Go.Proofs.YtbmbkgalkfmjdaaGreatDoor
end
section
namespace Go.Proofs.YtbmbkgalkfmjdaaGreatDoor
open Go.RowKit
set_option maxRecDepth 100000
set_option maxHeartbeats 1000000
end Go.Proofs.YtbmbkgalkfmjdaaGreatDoor
end
section
namespace Go.Proofs.YtbmbkgalkfmjdaaGreatDoor
open Go.RowKit
set_option maxRecDepth 100000
set_option maxHeartbeats 1000000
end Go.Proofs.YtbmbkgalkfmjdaaGreatDoor
end
section
namespace Go.Proofs.YtbmbkgalkfmjdaaGreatDoor
open Go.RowKit
set_option maxRecDepth 100000
set_option maxHeartbeats 1000000
def zBR (t:zab) (n:Str) (c:Int) (st:List zaa) (f:za2):Prop:= ∀q∈st,zbj t q=true→(f.fOver=true∨behind f.fLast q.fKey=false)→ ∃w∈st,w.fKey=zdn t n c (zd1 q)
def zzg (t:zab) (n:Str) (st:List zaa) (f:za2):Prop:= ∀w∈st,zbO t n w.fKey=true→f.fOver=false∧behind f.fLast w.fKey=true
section
variable {t:zab} {a:zaj} {n:Str} {x:zbs} {st st':List zaa} {f:za2}
end
structure zFG (t:zab) (n:Str) (x:zbs) (st:List zaa) (f:za2) (r:List zaa × za2):Prop where
 rows:rows t r.1=rows t st
 grow: ∀w∈st,∃w'∈r.1,w'.fKey=w.fKey
 back: ∀w∈r.1,w∈st∨ ∃q∈st,zbj t q=true∧w.fKey=zdn t n x.fCol (zd1 q)
 filled:zBR t n x.fCol st f→zBR t n x.fCol r.1 r.2
structure zFv (t:zab) (n:Str) (st:List zaa) (f:za2) (r:List zaa × za2):Prop where
 rows:rows t r.1=rows t st
 less: ∀k∈zdA t n r.1,k∈zdA t n st
 cleared:zzg t n st f→zzg t n r.1 r.2
end Go.Proofs.YtbmbkgalkfmjdaaGreatDoor
end
section
namespace Go.Proofs.YtbmbkgalkfmjdaaGreatDoor
open Go.RowKit
set_option maxRecDepth 100000
set_option maxHeartbeats 1000000
def zxn (f:za2):Bool:=f.fLast== []||goodKey f.fLast
structure zB3 (w:zbN):Prop where
 shift:zBB w.fShift
 up:w.fUp.fLast.length≤2000000
 down:w.fDown.fLast.length≤2000000
structure zD1 (w:zbN):Prop where
 shift:zAX w.fShift
 up:zxn w.fUp=true
 down:zxn w.fDown=true
structure zFS (w:zbN) (a:zdr):Prop where
 ok:a.fKind=1∧zEN w.fShift a.fAct∨(a.fKind=2∨a.fKind=3)∧1≤a.fMany∧a.fMany≤24
def zxB:za2:=⟨[],false⟩
def zD0 (w:zbN) (m:Nat):List zaa × za2:=zBS ((rows (zme w.fShift) w.fShift.fStore).map (zE7 (zme w.fShift) (xOf (zme w.fShift) w.fShift.fName))) w.fUp m w.fShift.fStore
def zBX (w:zbN) (m:Nat):List zaa × za2:=zBS ((zdA (zme w.fShift) w.fShift.fName w.fShift.fStore).map zEk) w.fDown m w.fShift.fStore
def zFu (s:zaI) (l:List zaa):zaI:=⟨s.fName,s.fWays,s.fAt,l⟩
inductive zvh (w:zbN) (a:zdr):zbN × Bool→Prop
 |stay:zvh w a (w,false)
 |move (q:zaI) (h1:a.fKind=1) (h0:a.fAct.fStep≠0) (ha:zEN w.fShift a.fAct) (hd:zfN w.fShift a.fAct=some (q,true)) (hm:znr w.fShift a.fAct=some true):zvh w a (⟨q,w.fUp,w.fDown⟩,true)
 |puts (q:zaI) (h1:a.fKind=1) (h0:a.fAct.fStep=0) (ha:zEN w.fShift a.fAct) (hd:zfN w.fShift a.fAct=some (q,true)) (hs:zhd (zDA w.fShift a.fAct.fServer) w.fShift.fName≥2):zvh w a (⟨q,w.fUp,zxB⟩,true)
 |none (q:zaI) (h1:a.fKind=1) (h0:a.fAct.fStep=0) (ha:zEN w.fShift a.fAct) (hd:zfN w.fShift a.fAct=some (q,true)) (hs: ¬zhd (zDA w.fShift a.fAct.fServer) w.fShift.fName≥2):zvh w a (⟨q,zxB,w.fDown⟩,true)
 |fill (h2:a.fKind=2) (hs:((zwX w.fShift).all fun y=>decide (y≥2))=true):zvh w a (⟨zFu w.fShift (zD0 w a.fMany.toNat).1,(zD0 w a.fMany.toNat).2,zxB⟩,true)
 |clear (h3:a.fKind=3) (hs:((zwX w.fShift).any fun y=>decide (y≥2))=false):zvh w a (⟨zFu w.fShift (zBX w a.fMany.toNat).1,zxB,(zBX w a.fMany.toNat).2⟩,true)
structure zBe (w r:zbN):Prop where
 shift:zFm w.fShift r.fShift
 up:zxn w.fUp=true→zxn r.fUp=true
 down:zxn w.fDown=true→zxn r.fDown=true
 upL:r.fUp.fLast.length≤w.fUp.fLast.length+12
 downL:r.fDown.fLast.length≤w.fDown.fLast.length+12
theorem zBe.refl {w:zbN} (hS:zB3 w) (hg:zAX w.fShift):zBe w w:=⟨⟨hg,hS.shift,rfl,rfl,rfl⟩,fun h=>h,fun h=>h,by omega,by omega⟩
def zET:zbN:=⟨zFq,zxB,zxB⟩
structure zFR (w:zbN) (a:zdr) (g ga:Bool) (r:zbN × Bool × Bool):Prop where
 gs:zkk w=some g
 gi:zkV w=some g
 as_:zia w a=some ga
 ai:zh8 w a=some ga
 ss:zqr w a=some r
 si:zqz w a=some r
 ok:r.2.2=ga
 res:r.1=zET∨zBe w r.1
 good:g=true↔zD1 w
 on:ga=true→zD1 w∧zFS w a∧zvh w a (r.1,r.2.1)∧zBe w r.1
end Go.Proofs.YtbmbkgalkfmjdaaGreatDoor
end
section
namespace Go.Proofs.YtbmbkgalkfmjdaaGreatDoor
open Go.RowKit
set_option maxRecDepth 100000
set_option maxHeartbeats 1000000
section
variable {w:zbN} {a:zdr} {r:zbN × Bool} (hS:zB3 w) (hg:zAX w.fShift) (hA:zjW a.fAct.fAct)
include hS hg hA
end
end Go.Proofs.YtbmbkgalkfmjdaaGreatDoor
end
section
namespace Go.Proofs.YtbmbkgalkfmjdaaGreatDoor
open Go.RowKit
set_option maxRecDepth 100000
set_option maxHeartbeats 1000000
theorem zEB {r:zah} (hR:zjk r) {i:Int} (h0:0≤i) (h1:i≤(r.fClocks.length:Int)-1):zfV r i=some (((r.fLeases[i.toNat]?).getD ⟨0,0⟩).fVer,zn6 r i,true):=by
 have h3:=hR.n1
 have hlen:=hR.len
 obtain⟨c,hc,hcm,hc2⟩:=zgK (xs:=r.fClocks) h0 (by omega)
 obtain⟨l,hl,_,hl2⟩:=zgK (xs:=r.fLeases) h0 (by omega)
 have:=hR.cl c hcm;have:=hR.now0;have:=hR.now1
 have w1:=zaJ (n:=r.fNow+c.fOff) (by omega) (by omega)
 have w2:=zaJ (n:=r.fNow+c.fOff+5) (by omega) (by omega)
 have hu:zda r i=some (zn6 r i):=by
  simp [zda,hc,hl,zc0,w1,w2,zn6,hc2,hl2]
 unfold zfV
 rw [zoC (by omega) (by omega),zhA.2 hR,Option.bind_some,if_pos rfl,zaJ (n:=(r.fClocks.length:Int)-1) (by omega) (by omega),zfX,za3.2 ⟨h0,h1⟩,Option.bind_some,if_neg (by simp),hl,Option.bind_some,hu,Option.bind_some,hl2];rfl
theorem zDe {t:zab} {n:Str} {b:Int} (hS:zcH t) (hb:inB b 0 3=true):zig t n b=some (if znE t n=true then(way t (kOf t n) (zhd t n) b,true)else([],false)):=by
 have hst:zfc b=some (inB b 0 3):=rfl
 have hb2:=za3.1 hb
 unfold zig
 rw [zz8 hS,Option.bind_some]
 by_cases h:znE t n=true
 ·have f:=zvk h
  rw [if_pos h,if_pos h,hst,hb,Option.bind_some,if_neg (by simp),zDF hS f.1 (by rw [←f.2.1];exact f.2.2.2.1) (by rw [←f.2.1];exact f.2.2.2.2.1) hb2.1 hb2.2,Option.bind_some,f.2.1];rfl
 ·rw [if_neg h,if_neg h]
structure OnW (t0 T:zab) (n:Str) (v:Int):Prop where
 has:znE T n=true
 stg:zhd T n=v
 nm:T.fName=t0.fName
 cols:T.fCols=t0.fCols
 col:(xOf T n).fCol=(xOf t0 n).fCol
theorem zDJ {t0:zab} {n:Str} (h:znE t0 n=true) (h0:zhd t0 n=0) {v:Int} (v0:0≤v) (v2:v≤2): ∃T,getI (way t0 (kOf t0 n) (zhd t0 n) 2) v=some T∧OnW t0 T n v:=by
 have e:way t0 (kOf t0 n) (zhd t0 n) 2= [t0,zgl t0 (kOf t0 n) 1,zgl t0 (kOf t0 n) 2]:=by rw [h0];rfl
 rw [e]
 have on: ∀c:Int,inB c 0 3=true→OnW t0 (zgl t0 (kOf t0 n) c) n c:=fun c hc=>⟨zx7 h hc,zzk h,rfl,rfl,by rw [zzX h]⟩
 have hv:v=0∨v=1∨v=2:=by omega
 rcases hv with rfl|rfl|rfl
 ·exact⟨t0,rfl,h,h0,rfl,rfl,rfl⟩
 ·exact⟨_,rfl,on 1 rfl⟩
 ·exact⟨_,rfl,on 2 rfl⟩
theorem zDB {t0:zab} {n:Str} {v4:List zab × Bool} {st:List zaa} {q:Nat} {now off ver:Int} {cl:List zaG} {ls:List za1} {v23:Int × Bool × Bool} {kind:Int} {old new:List Str} (h:znE t0 n=true) (h0:zhd t0 n=0) (e4:v4.1=way t0 (kOf t0 n) (zhd t0 n) 2) (hq:q≤1000)
  (hL:zAe t0 n (xOf t0 n) ver st) (v0:0≤v23.1) (v1:ver-1≤v23.1) (v2:v23.1≤ver) (v3:ver≤2) (hA:zjW ⟨kind,⟨old⟩,⟨new⟩⟩):
  ∃st',zcv v4 st q now off ver cl ls v23 kind old new=some (.inl (st',((q+1:Nat):Int),now,off,ver,cl,ls))∧zAe t0 n (xOf t0 n) ver st':=by
 obtain⟨T,eT,W⟩:=zDJ h h0 v0 (by omega)
 have hg:=zn5 W.has
 have hS:=zeA hg
 have hw:IntKind.i64.wrap ((q:Int)+1)=((q+1:Nat):Int):=by rw [zaJ (by omega) (by omega)];omega
 unfold zcv
 rw [e4,eT,Option.bind_some,zvE hS hA,Option.bind_some,hg,Bool.true_and,hw]
 cases hga:zdm T ⟨kind,⟨old⟩,⟨new⟩⟩with
 |false=>exact⟨st,rfl,hL⟩
 |true=>
  have f:=zvk W.has
  have hst:=hL.1
  have hv:zt8 T st ⟨kind,⟨old⟩,⟨new⟩⟩=((ziu st (ziP T ⟨kind,⟨old⟩,⟨new⟩⟩)).1,(ziu st (ziP T ⟨kind,⟨old⟩,⟨new⟩⟩)).2,true):=by
   unfold zt8
   rw [hg,hga,hst];rfl
  have hact:=hL.act (zDg hg f.2.2.1 f.1.name hga) hga W.nm W.cols W.col (by rw [←f.2.1,W.stg];exact v1) (by rw [←f.2.1,W.stg];exact v2)
  rw [if_neg (by simp),zCO hS (zr7 hst) hA,Option.bind_some,hv,if_neg (by simp)]
  exact⟨_,rfl,hact⟩
structure zDp (t0:zab) (n:Str) (r:zah) (st:List zaa):Prop where
 good:zjk r
 sound:sound r=true
 n3:r.fClocks.length=3
 ver:r.fVer≤2
 lea:zAe t0 n (xOf t0 n) r.fVer st
theorem zBM {t0:zab} {n:Str} {v1:zab × List zaa × zaj} {v4:List zab × Bool} {st:List zaa} {q:Nat} {r:zah} (h:znE t0 n=true) (h0:zhd t0 n=0) (e4:v4.1=way t0 (kOf t0 n) (zhd t0 n) 2) (hq:q≤1000) (hA:zjW v1.2.2) (hI:zDp t0 n r st):
  ∃st',zfU v1 v4 st q r.fNow r.fMaster.fOff r.fVer r.fClocks r.fLeases=some (.inl (st',((q+1:Nat):Int),r.fNow,r.fMaster.fOff,r.fVer,r.fClocks,r.fLeases))∧zDp t0 n r st':=by
 have hlen:=hI.good.len
 have h3:=hI.n3
 have hi:q % 3<3:=Nat.mod_lt _ (by omega)
 have hmod:Int.tmod (q:Int) 3=((q % 3:Nat):Int):=rfl
 have hlr:q % 3<r.fLeases.length:=by omega
 have eR:(⟨r.fNow,⟨r.fMaster.fOff⟩,r.fClocks,r.fVer,r.fLeases⟩:zah)=r:=rfl
 have hu:=zEB hI.good (i:=((q % 3:Nat):Int)) (by omega) (by omega)
 obtain⟨b0,b1⟩:=zzG hI.good hlr
 have hver:=hI.ver
 have hw:IntKind.i64.wrap ((q:Int)+1)=((q+1:Nat):Int):=by rw [zaJ (by omega) (by omega)];omega
 rw [Int.toNat_natCast]at hu
 unfold zfU
 rw [eR,hmod,hu,Option.bind_some,if_neg (by simp;omega),hw]
 have hsame:zDp t0 n r st:=hI
 cases hus:zn6 r ((q % 3:Nat):Int)with
 |false=>exact⟨st,rfl,hI⟩
 |true=>
  have hv1:=zCd hI.good hI.sound hlr hus
  rw [if_neg (by simp)]
  have fin: ∀(kind:Int) (old new:List Str),zjW ⟨kind,⟨old⟩,⟨new⟩⟩→ ∃st',zcv v4 st q r.fNow r.fMaster.fOff r.fVer r.fClocks r.fLeases (((r.fLeases[q % 3]?).getD ⟨0,0⟩).fVer,true,true) kind old new=some (.inl (st',((q+1:Nat):Int),r.fNow,r.fMaster.fOff,r.fVer,r.fClocks,r.fLeases))∧zDp t0 n r st':=fun kind old new hA'=>by
   obtain⟨st',s1,s2⟩:=zDB (v4:=v4) (st:=st) (q:=q) (now:=r.fNow) (off:=r.fMaster.fOff) (cl:=r.fClocks) (ls:=r.fLeases) (v23:=(((r.fLeases[q % 3]?).getD ⟨0,0⟩).fVer,true,true)) h h0 e4 hq hI.lea b0 hv1 b1 hver hA'
   exact⟨st',s1,⟨hI.good,hI.sound,hI.n3,hI.ver,s2⟩⟩
  have nil:Small ([]:List Str):=⟨by simp,by simp [zdN]⟩
  by_cases c1:((((q % 3:Nat):Int)==1)&&(v1.2.2.fKind==1))=true
  ·rw [if_pos c1]
   exact fin 2 _ _ ⟨hA.2,nil⟩
  ·rw [if_neg c1]
   by_cases c2:((((q % 3:Nat):Int)==2)&&(v1.2.2.fKind !=1))=true
   ·rw [if_pos c2]
    exact fin 1 _ _ ⟨nil,hA.1⟩
   ·rw [if_neg c2]
    exact fin _ _ _ ⟨hA.1,hA.2⟩
theorem zwU {t0:zab} {n:Str} {v1:zab × List zaa × zaj} {v2:zab × List UInt8 × Bool} {v3:zah × List zal} {v4:List zab × Bool} (h:znE t0 n=true) (h0:zhd t0 n=0) (e4:v4.1=way t0 (kOf t0 n) (zhd t0 n) 2) (hA:zjW v1.2.2) (hl:v3.2.length≤100) (e2:v2.1=t0∧v2.2.1=n): ∀(m q:Nat) (r:zah) (st:List zaa),q+m=v3.2.length→zDp t0 n r st→
  zat (fun s:List zaa × Int × Int × Int × Int × List zaG × List za1=>zaZ v1 v2 v3 v4 s.1 s.2.1 s.2.2.1 s.2.2.2.1 s.2.2.2.2.1 s.2.2.2.2.2.1 s.2.2.2.2.2.2) (st,(q:Int),r.fNow,r.fMaster.fOff,r.fVer,r.fClocks,r.fLeases)=some true
 |0,q,r,st,hq,hI=>by
  have hg:=zn5 h
  have hS:=zeA hg
  have hst:=hI.lea.1
  refine zdg ?_
  show zaZ v1 v2 v3 v4 st q r.fNow r.fMaster.fOff r.fVer r.fClocks r.fLeases=_
  unfold zaZ zil
  rw [if_neg (by rw [decide_eq_true_eq];omega),e2.1,e2.2,zzQ hS (zr7 hst),Option.bind_some]
  unfold zpy ztT
  rw [h,hst,if_pos (by rfl),hI.lea.2.2];rfl
 |m+1,q,r,st,hq,hI=>by
  have hlt:q<v3.2.length:=by omega
  have hlen:=hI.good.len
  have h3:=hI.n3
  have hver:=hI.ver
  have go: ∀(r':zah) (st':List zaa),zaZ v1 v2 v3 v4 st q r.fNow r.fMaster.fOff r.fVer r.fClocks r.fLeases=some (.inl (st',((q+1:Nat):Int),r'.fNow,r'.fMaster.fOff,r'.fVer,r'.fClocks,r'.fLeases))→zDp t0 n r' st'→
    zat (fun s:List zaa × Int × Int × Int × Int × List zaG × List za1=>zaZ v1 v2 v3 v4 s.1 s.2.1 s.2.2.1 s.2.2.2.1 s.2.2.2.2.1 s.2.2.2.2.2.1 s.2.2.2.2.2.2) (st,(q:Int),r.fNow,r.fMaster.fOff,r.fVer,r.fClocks,r.fLeases)=some true:=fun r' st' e hI'=>
   (zeb (body:=fun s:List zaa × Int × Int × Int × Int × List zaG × List za1=>zaZ v1 v2 v3 v4 s.1 s.2.1 s.2.2.1 s.2.2.2.1 s.2.2.2.2.1 s.2.2.2.2.2.1 s.2.2.2.2.2.2) e).trans (zwU h h0 e4 hA hl e2 m (q+1) r' st' (by omega) hI')
  have hw:IntKind.i64.wrap ((q:Int)+1)=((q+1:Nat):Int):=by rw [zaJ (by omega) (by omega)];omega
  have eR:(⟨r.fNow,⟨r.fMaster.fOff⟩,r.fClocks,r.fVer,r.fLeases⟩:zah)=r:=rfl
  by_cases hs:((v3.2[q].fKind==4)&&(r.fVer==2))=true
  ·refine go r st ?_ hI
   unfold zaZ
   rw [if_pos (decide_eq_true (by omega)),zam hlt,Option.bind_some,if_pos hs,hw]
  ·have hstep:=zAg (r:=r) v3.2[q] (by omega) (by omega)
   unfold zC4 at hstep
   rw [zhA.2 hI.good,Bool.true_and]at hstep
   cases hgd:zij r v3.2[q]with
   |false=>
    rw [hgd,if_neg (by simp)]at hstep
    obtain⟨st',s1,s2⟩:=zBM (v1:=v1) (v4:=v4) (q:=q) h h0 e4 (by omega) hA hI
    refine go r st' ?_ s2
    unfold zaZ
    rw [if_pos (decide_eq_true (by omega)),zam hlt,Option.bind_some,if_neg hs,eR,hstep,Option.bind_some]
    exact s1
   |true=>
    rw [hgd,if_pos rfl]at hstep
    obtain⟨g1,_,g3,g4⟩:=zym hI.good hgd
    obtain⟨d1,d2⟩:=zA5 (r:=r) (a:=v3.2[q])
    have hv2:(doN r v3.2[q]).1.fVer≤2:=by
     rcases d2 with d2|⟨d2,k1,k2,k3⟩
     ·omega
     ·have hk4:v3.2[q].fKind=4:=by
       rcases zid hI.good hgd with⟨k,_⟩|⟨k,_⟩|⟨k,_⟩|k
       ·exact absurd k k1
       ·exact absurd k k2
       ·exact absurd k k3
       ·exact k
      have:r.fVer≠2:=fun e=>hs (by rw [hk4,e];rfl)
      omega
    obtain⟨st',s1,s2⟩:=zBM (v1:=v1) (v4:=v4) (st:=st) (q:=q) (r:=(doN r v3.2[q]).1) h h0 e4 (by omega) hA ⟨g1,g4 hI.sound,by omega,hv2,hI.lea.raise g3⟩
    refine go _ st' ?_ s2
    unfold zaZ
    rw [if_pos (decide_eq_true (by omega)),zam hlt,Option.bind_some,if_neg hs,eR,hstep,Option.bind_some]
    exact s1
theorem zzM (c b:List Int) (hc:okL zCC c) (hb:okL zCC b) (z0:c.length≤140737488351232) (z1:b.length≤140737488351232):zf1 c b=some true:=by
 unfold zf1
 refine zFy (fun _=>rfl) fun _=> ?_
 obtain⟨⟨t,st0,a⟩,hd,hT,_,hA⟩:=zuQ hc.2
 dsimp only at hT hA
 obtain⟨r0,s1,s2,s3,s4,_⟩:=zBd (t:=t) (c:=0) hT
 obtain⟨⟨r1,l⟩,hp,_,hl⟩:=zvn hb.2
 dsimp only at hl
 refine(zl0 hd).trans ((zl0 s1).trans ((zl0 hp).trans ((zl0 (zDe (n:=r0.2.1) s2 (show inB 2 0 3=true from rfl))).trans (zFy (fun hok=> ?_) fun _=>rfl))))
 obtain⟨x,x1,x2,x3,x4,x5⟩:=s4 hok
 have hI:znE r0.1 r0.2.1=true:=by rw [x5,x2];exact zx7 x3 x4
 have h0:zhd r0.1 r0.2.1=0:=by rw [x5,x2];exact zzk x3
 have hlenw:(way r0.1 (kOf r0.1 r0.2.1) (zhd r0.1 r0.2.1) 2).length=3:=by rw [h0];rfl
 rw [if_pos hI]
 refine(zl0 (zs9 s2)).trans ?_
 rw [zn5 hI]
 refine zFa (by rfl) (zFa (by simp [hlenw]) ((zl0 (zDy 3 (by omega) (by omega))).trans (zFa (by rfl) ?_)))
 exact zwU hI h0 rfl hA.small (by dsimp only;omega) ⟨rfl,rfl⟩ l.length 0 (zpp 3) [] (by simp) ⟨zt5 (by omega) (by omega),zxK 3,by simp [zpp],by simp [zpp],zCj⟩
end Go.Proofs.YtbmbkgalkfmjdaaGreatDoor
end
section
namespace Go.Proofs.YtbmbkgalkfmjdaaGreatDoor
open Go.RowKit
set_option maxRecDepth 100000
theorem zvJ {H:Type} {enc:TypeId × Value→H} {P:Program} {w:World} {base:Nat} {sp:Nat→Bool} {held:Bool} {fuel:Nat} {t:TypeId} {cs:List Value} {n:String} {d:DataW H} {p:List MemPlace} {u:TypeDesc}
  (ht:P.underlying t=some u) (hu:(match u with| .interface _=>true|_=>false)=true) (h:DataW.trod enc P w base sp held fuel t cs=some (.iface n d,p)): ∃a v,cs= [.iface a v]:=by
 cases fuel with
 |zero=>simp [DataW.trod]at h
 |succ fuel=>
  cases u<;>first|(cases hu;done)|skip
  simp only [DataW.trod,ht]at h
  split at h<;>first|(exact⟨_,_,rfl⟩)|(simp at h;done)|(simp_all;done)
noncomputable def zDP (s:String):Bool:=match(Tryz.prog.globalNamed s).bind (fun g=>(Tryz.prog.globals[g]?).map (·.type))with
 |some t=>(match Tryz.prog.underlying t with|some (.interface _)=>true|_=>false)
 |none=>false
noncomputable def zB1 (s:String):Bool:=match(Tryz.prog.globalNamed s).bind (fun g=>(Tryz.prog.globals[g]?).map (·.type))with
 |some t=>(match Tryz.prog.underlying t with
  |some (.array n e)=>(match Tryz.prog.underlying e with|some (.int .u64)=>true|_=>false)&&Tryz.prog.cellsOf e==1&&Tryz.prog.cellsOf t==n
  |_=>false)
 |none=>false
theorem zw2 {s:String} {D:DataW Unit} {W:World} (h:laidMet Tryz.prog [(s,D)] W) (hc:zDP s=true) (hd: ∃n d,D= .iface n d): ∃t p,W.var? Tryz.prog s=some #[.iface t p]:=by
 obtain⟨ps,⟨g,t,cs,fuel,p,q,hg,ht,hvar,htr,_,_⟩,_⟩:=h
 obtain⟨n,d,rfl⟩:=hd
 unfold zDP at hc
 rw [hg,Option.bind_some,ht]at hc
 simp only at hc
 cases hu:Tryz.prog.underlying t with
 |none=>rw [hu]at hc;cases hc
 |some u=>
  obtain⟨a,v,e⟩:=zvJ hu (by rw [hu]at hc;cases u<;>first|rfl|cases hc) htr
  refine⟨a,v, ?_⟩
  rw [hvar]
  congr 1
  apply Array.ext'
  rw [e]
theorem zDU {s:String} {W:World} (h:laidMet Tryz.prog [(s,Lib.tabData .u64 Lib.pow10Tab)] W) (hc:zB1 s=true):Lib.TabIs Tryz.prog W s .u64 Lib.pow10Tab:=by
 have h0:=h
 obtain⟨ps,⟨g,t,cs,fuel,p,q,hg,ht,hvar,htr,_,_⟩,_⟩:=h
 unfold zB1 at hc
 rw [hg,Option.bind_some,ht]at hc
 simp only at hc
 split at hc
 ·rename_i n e hu
  simp only [Bool.and_eq_true,beq_iff_eq]at hc
  obtain⟨⟨h1,h2⟩,h3⟩:=hc
  split at h1
  ·rename_i he
   exact Lib.tabIs_of_head hg ht hu he h2 h3 h0
  ·cases h1
 ·cases hc
theorem zCt {laid:List (String × DataW Unit)} {D1 D2 D3:DataW Unit} {W:World} (h:laidMet Tryz.prog laid W)
  (e1:(laid.filter fun x=>x.1== "strconv.ErrSyntax")= [("strconv.ErrSyntax",D1)]) (i1: ∃n d,D1= .iface n d)
  (e2:(laid.filter fun x=>x.1== "strconv.ErrRange")= [("strconv.ErrRange",D2)]) (i2: ∃n d,D2= .iface n d)
  (e3:(laid.filter fun x=>x.1== "internal/strconv.uint64pow10")= [("internal/strconv.uint64pow10",D3)]) (i3:D3=Lib.tabData .u64 Lib.pow10Tab):pkW.n≤W.heap.size∧pkW.K W:=by
 have h1:=h.filter fun x=>x.1== "strconv.ErrSyntax"
 have h2:=h.filter fun x=>x.1== "strconv.ErrRange"
 have h3:=h.filter fun x=>x.1== "internal/strconv.uint64pow10"
 rw [e1]at h1
 rw [e2]at h2
 rw [e3,i3]at h3
 have k:pkK W:=⟨zw2 h1 (by kernel_rfl) i1,zw2 h2 (by kernel_rfl) i2,(zDU h3 (by kernel_rfl)).trans (by kernel_rfl)⟩
 exact⟨zDx k,k⟩
end Go.Proofs.YtbmbkgalkfmjdaaGreatDoor
end

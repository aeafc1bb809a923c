/- Parts of a proof, joined: NS, NT, NV, NU, NH, NVG, NDA, NDB, LCG, NDC, NQS, N17, N18, N19, N20, N21, N22, NM, NN. -/
import Derived.Test.YtbmbkgalkfmjdaaGreatDoorY9
set_option linter.unusedVariables false
set_option linter.unusedSimpArgs false
section
namespace Go.Proofs.YtbmbkgalkfmjdaaGreatDoor
open Go.RowKit
set_option maxRecDepth 100000
abbrev wk (w:Ac):Af:=w.af
theorem cV {α β:Type} {xs:List α} {body:Int→Option (Int ⊕ Option β)} (p:α→Bool) (hit:α→Option β) (fin:Option β)
  (hs: ∀(i:Nat) (hi:i<xs.length),body i=some (if p xs[i]=true then .inr (hit xs[i])else .inl ((i+1:Nat):Int))) (he:body xs.length=some (.inr fin)):
  Ay body 0=match xs.find? p with|some x=>hit x|none=>fin:=by
 have key: ∀n q,q+n=xs.length→Ay body (q:Nat)=match(xs.drop q).find? p with|some x=>hit x|none=>fin:=by
  intro n
  induction n with
  |zero=>
   intro q hq;have:q=xs.length:=by omega
   subst this;rw [List.drop_length];exact Df he
  |succ n ih=>
   intro q hq;have Ak:q<xs.length:=by omega
   rw [List.drop_eq_getElem_cons Ak,List.find?_cons];have h1:=hs q Ak;cases hp:p xs[q]with
   |true=>rw [hp,if_pos rfl]at h1;exact Df h1
   |false=>rw [hp,if_neg (by simp)]at h1;rw [DF h1];exact ih (q+1) (by omega)
 have:=key xs.length 0 (by omega);rw [List.drop_zero]at this;exact this
def Ox (got:List BP) (k:Af):Af × Bool × Bool:=match got.find? (fun g=>g.af==k)with|some g=>(g.bb,g.dn,true)|none=>([],false,false)
def Dp (ws:List Ac) (got:List BP) (k:Af):Af × Bool × Bool:=match ws.find? (fun w=>w.af==k)with|some w=>(w.bb, !w.bh,true)|none=>Ox got k
def Dn (rows:List Ac) (k:Af):BP:=match rows.find? (fun w=>w.af==k)with|some w=>⟨k,w.bb,true⟩|none=>⟨k, [],false⟩
theorem rE {ws:List Ac} {got:List BP} {k:Af} (hw:ws.length≤2000000) (hg:got.length≤2000000):zip ws got k=some (Dp ws got k):=by
 have h2:Zr got k=some (Ox got k):=by
  unfold Zr Ox;rw [cV (xs:=got) (body:=fun s:Int=>R9 got k s) (fun g=>g.af==k) (fun g=>some (g.bb,g.dn,true)) (some ([],false,false)) (fun i hi=>by
   show R9 got k i=_;unfold R9;rw [if_pos (by simpa using hi),AL hi,Aa,Bi hi (by omega)];split<;>rfl) (by
   show R9 got k got.length=_;unfold R9;rw [if_neg (by simp)])]
  cases got.find? (fun g=>g.af==k)<;>rfl
 unfold zip Dp;rw [cV (xs:=ws) (body:=fun s:Int=>R7 ws got k s) (fun w=>w.af==k) (fun w=>some (w.bb, !w.bh,true)) (Zr got k) (fun i hi=>by
  show R7 ws got k i=_;unfold R7;rw [if_pos (by simpa using hi),AL hi,Aa,Bi hi (by omega)];split<;>rfl) (by
  show R7 ws got k ws.length=_;unfold R7;rw [if_neg (by simp)]),h2]
 cases ws.find? (fun w=>w.af==k)<;>rfl
theorem zGS {rows:List Ac} {k:Af} (hw:rows.length≤2000000):aS rows k=some (Dn rows k):=by
 unfold aS Dn;rw [cV (xs:=rows) (body:=fun s:Int=>Sn rows k s) (fun w=>w.af==k) (fun w=>some ⟨k,w.bb,true⟩) (zmX k) (fun i hi=>by
  show Sn rows k i=_;unfold Sn;rw [if_pos (by simpa using hi),AL hi,Aa,Bi hi (by omega)];split<;>rfl) (by
  show Sn rows k rows.length=_;unfold Sn;rw [if_neg (by simp)])]
 cases rows.find? (fun w=>w.af==k)<;>rfl
theorem cL {α:Type} (lt:α→Bool) (x:α) (l:List α):B5 lt (x::l)=if lt x=true then B5 lt l+1 else 0:=by unfold B5;rw [List.takeWhile_cons];split<;>rfl
theorem Tn {x:Ac} {l:List Ac} (h:Dc (x::l)):(∀y∈l,bl x.af y.af=true)∧Dc l:=by unfold Dc El at h;rw [List.pairwise_cons]at h;exact h
theorem zCH {l:List Ac} {k:Af} (h: ∀y∈l,bl k y.af=true):l.find? (fun w=>w.af==k)=none:=by rw [List.find?_eq_none];intro y hy;have:=FF (h y hy);simpa using fun e=>this e.symm
theorem zu0 {k:Af}: ∀{l:List Ac},Dc l→l.find? (fun w=>w.af==k)=match l[Hb l k]? with|some w=>if w.af=k then some w else none|none=>none
 | [],_=>by simp
 |x::l,h=>by
  obtain⟨h1,h2⟩:=Tn h;have ih:=zu0 (k:=k) h2;rw [Hb,cL,List.find?_cons];by_cases hb:bl x.af k=true
  ·have A3:(x.af==k)=false:=by simpa using FF hb
   rw [if_pos hb,A3,List.getElem?_cons_succ];exact ih
  ·rw [if_neg hb,List.getElem?_cons_zero];by_cases he:x.af=k
   ·rw [show(x.af==k)=true by simpa using he];simp [he]
   ·rw [show(x.af==k)=false by simpa using he];simp only [he,if_false];have hk:bl k x.af=true:=WB (by simpa using hb) he;exact zCH fun y hy=>Gc hk (h1 y hy)
theorem xV {l:List Ac} {k:Af} (hl:l.length≤2000000) (hr:Dc l): ∃i:Int,(NO l k=some (i,true)∧ ∃w,getI l i=some w∧l.find? (fun w=>w.af==k)=some w)∨(NO l k=some (i,false)∧l.find? (fun w=>w.af==k)=none):=by
 refine⟨(Hb l k:Nat), ?_⟩;rw [zIx hl hr,zu0 hr];by_cases hp:Hb l k<l.length
 ·rw [List.getElem?_eq_getElem hp];by_cases hk:(l[Hb l k]).af=k
  ·left;simp only [hk,decide_true,if_true];exact⟨trivial,_,AL hp,rfl⟩
  ·right;simp only [hk,decide_false,if_false];exact⟨trivial,trivial⟩
 ·rw [List.getElem?_eq_none (by omega)];right;exact⟨rfl,rfl⟩
theorem zA6 {ws:List Ac} {got:List BP} {k:Af} (hw:ws.length≤2000000) (hg:got.length≤2000000) (hr:Dc ws):ZY k ws got=some (Dp ws got k):=by
 unfold ZY Dp;obtain⟨i,⟨e,w,e2,e3⟩|⟨e,e3⟩⟩:=xV (k:=k) hw hr
 ·rw [e,e3,Aa,if_pos rfl,e2];rfl
 ·rw [e,e3,Aa,if_neg (by simp)];unfold Ox;rw [cV (xs:=got) (body:=fun s:Int=>Sw k got s) (fun g=>g.af==k) (fun g=>some (g.bb,g.dn,true)) (some ([],false,false)) (fun i hi=>by
   show Sw k got i=_;unfold Sw;rw [if_pos (by simpa using hi),AL hi,Aa,Bi hi (by omega)];split<;>rfl) (by
   show Sw k got got.length=_;unfold Sw;rw [if_neg (by simp)])]
  cases got.find? (fun g=>g.af==k)<;>rfl
theorem zFB {rows:List Ac} {k:Af} (hw:rows.length≤2000000) (hr:Dc rows):bD rows k=some (Dn rows k):=by
 unfold bD Dn;obtain⟨i,⟨e,w,e2,e3⟩|⟨e,e3⟩⟩:=xV (k:=k) hw hr
 ·rw [e,e3,Aa,if_neg (by simp),e2];rfl
 ·rw [e,e3,Aa,if_pos (by simp)]
def Ez (k:Af) (w:Ac):Bool:=bl w.af k||w.af==k
def Nx (l:List Ac) (w:Ac) (q:Nat):List Ac:=
 match(if q=0 then none else l[q-1]?)with
 |some y=>if y.af=w.af then l.set (q-1) w else l.take q++ [w]++l.drop q
 |none=>l.take q++ [w]++l.drop q
theorem zDe {w:Af} {l:List Ac} (h: ∀y∈l,bl w y.af=true):B5 (Ez w) l=0:=by
 cases l with
 |nil=>rfl
 |cons y l=>rw [cL,if_neg];have h1:=h y (by simp);have h2:=cX h1;have h3:=FF h1;unfold Ez;rw [h2];simpa using fun e=>h3 e.symm
theorem xA {w:Ac}: ∀{l:List Ac},Dc l→Nx l w (B5 (Ez w.af) l)=Bk wk w l
 | [],_=>by simp [Nx,Bk,B5]
 |x::l,h=>by
  obtain⟨h1,h2⟩:=Tn h;have ih:=xA (w:=w) h2;rw [cL,Bk];by_cases ha:bl (wk w) (wk x)=true
  ·have hl:Ez w.af x=false:=by
    have h3:=cX ha;have h4:=FF ha;unfold Ez;rw [h3];simpa using fun e=>h4 e.symm
   rw [if_pos ha,hl,if_neg (by simp)];simp [Nx]
  rw [if_neg ha];by_cases he:wk w=wk x
  ·have hl:Ez w.af x=true:=by unfold Ez;rw [show(x.af==w.af)=true by simpa using he.symm];simp
   have hz:B5 (Ez w.af) l=0:=zDe fun y hy=>by rw [show w.af=x.af from he];exact h1 y hy
   rw [if_pos he,hl,if_pos rfl,hz];simp [Nx,show x.af=w.af from he.symm]
  ·have hb:bl x.af w.af=true:=WB (by simpa using ha) he;have hl:Ez w.af x=true:=by unfold Ez;rw [hb];rfl
   rw [if_neg he,hl,if_pos rfl,←ih];have hle:=Tz (Ez w.af) l;generalize B5 (Ez w.af) l=q at hle;unfold Nx;rw [if_neg (by omega),Nat.add_sub_cancel];cases q with
   |zero=>simp only [List.getElem?_cons_zero,if_true];rw [if_neg (fun e=>he e.symm)];simp
   |succ q=>
    rw [if_neg (by omega),Nat.add_sub_cancel,List.getElem?_cons_succ,List.getElem?_eq_getElem (by omega)];simp only;split
    ·simp
    ·simp
theorem xZ {w:Af}: ∀{l:List Ac},Dc l→ ∀(j:Nat) (hj:j<l.length),B5 (Ez w) l≤j→Ez w l[j]=false
 | [],_,j,hj,_=>by simp at hj
 |x::l,h,j,hj,hq=>by
  obtain⟨h1,h2⟩:=Tn h;rw [cL]at hq;by_cases hx:Ez w x=true
  ·rw [if_pos hx]at hq;cases j with
   |zero=>omega
   |succ j=>exact xZ h2 j (by simpa using hj) (by omega)
  ·have De:Ez w x=false:=by simpa using hx
   cases j with
   |zero=>exact De
   |succ j=>have hm:l[j]'(by simpa using hj)∈l:=List.getElem_mem _;have h3:=h1 _ hm;show Ez w (l[j]'(by simpa using hj))=false;unfold Ez at De ⊢;simp only [Bool.or_eq_false_iff,beq_eq_false_iff_ne]at De ⊢;have h4:bl w x.af=true:=WB De.1 De.2;have h5:=Gc h4 h3;exact⟨cX h5,fun e=>FF h5 e.symm⟩
theorem jQ {i:Nat} (h0:0<i) (h:i≤2000000):IntKind.i64.wrap ((i:Int)-1)=((i-1:Nat):Int):=by rw [Ba (by omega) (by omega)];omega
theorem Mz {l:List Ac} {w:Ac} (hl:l.length≤2000000) (hr:Dc l):G8 l w=some (Bk wk w l):=by
 have hk: ∀q:Nat,q≤l.length→ZK l w (q:Int)=some (Nx l w q):=by
  intro q hq;have r1:0≤(q:Int)∧(q:Int)≤(l.length:Int)∧(l.length:Int)≤(l.length:Int):=by omega
  have GL:(Bn l (q:Int) (l.length:Int))=l.drop q:=by rw [show(l.length:Int)=((l.length:Nat):Int)from rfl,PF,List.take_length]
  have F5:(Bn l 0 (q:Int))=l.take q:=PG l q;have r2:((([]:List Ac).length:Int)+((l.drop q).length:Int))*40≤140737488355328∧(([]:List Ac).length:Int)+((l.drop q).length:Int)≤140737488355328:=by rw [List.length_nil,List.length_drop];omega
  have r3:0≤(0:Int)∧(0:Int)≤(q:Int)∧(q:Int)≤(l.length:Int):=by omega
  have r4:((([]:List Ac).length:Int)+((l.take q).length:Int))*40≤140737488355328∧(([]:List Ac).length:Int)+((l.take q).length:Int)≤140737488355328:=by rw [List.length_nil,List.length_take];omega
  have r5:(((l.take q).length:Int)+(([w]:List Ac).length:Int))*40≤140737488355328∧((l.take q).length:Int)+(([w]:List Ac).length:Int)≤140737488355328:=by rw [AH,List.length_take];omega
  have r6:(((l.take q++ [w]).length:Int)+((l.drop q).length:Int))*40≤140737488355328∧((l.take q++ [w]).length:Int)+((l.drop q).length:Int)≤140737488355328:=by rw [Ar,AH,List.length_take,List.length_drop];omega
  have r7:((([]:List Ac).length:Int)+((l).length:Int))*40≤140737488355328∧(([]:List Ac).length:Int)+((l).length:Int)≤140737488355328:=by rw [List.length_nil];omega
  unfold ZK Nx;by_cases h0:q=0
  ·subst h0;rw [if_neg (by simp),if_pos rfl];rw [AQ r1,GL,AQ r2,AQ r3,F5,AQ r4,AQ r5,AQ r6]
  ·have Gh:q-1<l.length:=by omega
   rw [if_pos (by simp;omega),if_neg h0,jQ (by omega) (by omega),AL Gh,Aa,List.getElem?_eq_getElem Gh];simp only;by_cases he:(l[q-1]).af=w.af
   ·rw [if_pos (by simpa using he),if_pos he,AQ r7,Aa];rfl
   ·rw [if_neg (by simpa using he),if_neg he];rw [AQ r1,GL,AQ r2,AQ r3,F5,AQ r4,AQ r5,AQ r6]
 have hle:=Tz (Ez w.af) l;have key: ∀n j:Nat,j=B5 (Ez w.af) l+n→j≤l.length→Ay (fun s:Int=>P0 l w s) (j:Int)=some (Nx l w (B5 (Ez w.af) l)):=by
  intro n
  induction n with
  |zero=>
   intro j hj gE;have Q4:j=B5 (Ez w.af) l:=by omega
   refine(Df ?_).trans (hk _ hle);show P0 l w (j:Int)=_;unfold P0;by_cases h0:j=0
   ·rw [if_neg (by simp [h0]),Q4]
   ·have Gh:j-1<l.length:=by omega
    have ht:=tW (lt:=Ez w.af) (l:=l) (i:=j-1) (by omega);rw [if_pos (by simp;omega),jQ (by omega) (by omega),AL Gh,Aa,if_neg,Q4];unfold Ez at ht;have ht:(bl l[j-1].af w.af||l[j-1].af==w.af)=true:=ht;show¬(!(bl l[j-1].af w.af||l[j-1].af==w.af))=true;rw [ht];simp
  |succ n ih=>
   intro j hj gE;have Gh:j-1<l.length:=by omega
   have ht:=xZ (w:=w.af) hr (j-1) Gh (by omega);have e:P0 l w (j:Int)=some (.inl ((j-1:Nat):Int)):=by unfold P0;rw [if_pos (by simp;omega),jQ (by omega) (by omega),AL Gh,Aa,if_pos];have ht:(bl l[j-1].af w.af||l[j-1].af==w.af)=false:=ht;show(!(bl l[j-1].af w.af||l[j-1].af==w.af))=true;rw [ht];rfl
   rw [DF (body:=fun s:Int=>P0 l w s) e];exact ih (j-1) (by omega) (by omega)
 unfold G8;rw [key (l.length-B5 (Ez w.af) l) l.length (by omega) (Nat.le_refl _),xA hr]
structure Gq (o:AA):Prop where
 key:An o.af=true
 val:Gl o.bb=true
 oq:o.jj=0
 kind:o.ak=2∨o.ak=3∨o.ak=6∨o.ak=7
 none:o.ak=3∨o.ak=6→o.bb= []
theorem zxi {s:Af} (h:Gl s=true):s.length≤24:=by unfold Gl at h;simp only [Ae,decide_eq_true_eq]at h;omega
theorem Td {s:Af} (h:An s=true):s.length≤12:=by unfold An at h;simp only [Ae]at h;have:=Ca.1 h.1;omega
theorem zxO (s:Af) (h:s.length≤2000000): ∃r,Wl s=some r:=by
 unfold Wl;rw [Ir,Aa];cases hb:BQ s.length 1 6 with
 |false=>exact⟨_,rfl⟩
 |true=>
  have h1:=Ca.1 hb;obtain⟨x,e,_,_⟩:=IX (xs:=s) (i:=0) (by omega) (by omega);rw [if_pos rfl,e,Aa];split
  ·exact⟨_,rfl⟩
  ·have key: ∀(n q:Nat) (v:Int),q+n=s.length→ ∃r,Ay (fun s_:Int × Int=>Mj s s_.1 s_.2) (v,(q:Int))=some r:=by
    intro n
    induction n with
    |zero=>intro q v hq;refine⟨v,Df ?_⟩;show Mj s v q=_;unfold Mj;rw [if_neg (by simp;omega)]
    |succ n ih=>
     intro q v hq;have Ak:q<s.length:=by omega
     by_cases hd:((decide (((s[q]).toNat:Int)<48))||(decide (((s[q]).toNat:Int)>57)))=true
     ·refine⟨-1,Df ?_⟩;show Mj s v q=_;unfold Mj;rw [if_pos (by simpa using Ak),AL Ak,Aa,if_pos hd]
     ·have e:Mj s v q=some (.inl ((IntKind.i64.wrap ((IntKind.i64.wrap ((10:Int)*v))+(IntKind.i64.wrap (IntKind.u8.wrap (((s[q]).toNat:Int)-48))))),((q+1:Nat):Int))):=by
       unfold Mj;rw [if_pos (by simpa using Ak),AL Ak,Aa,if_neg hd,Bi Ak (by omega)]
      obtain⟨r,hr⟩:=ih (q+1) _ (by omega);exact⟨r,(DF (body:=fun s_:Int × Int=>Mj s s_.1 s_.2) e).trans hr⟩
   exact key s.length 0 0 (by omega)
theorem zEK (s:Af) (h:s.length≤2000000): ∃r,Wp s=some r:=by
 have G1: ∀(y:UInt8) (v:Af),v.length≤2000000→ ∃r,ZV y v=some r:=by
  intro y v hv;obtain⟨r,e⟩:=zxO v hv;unfold ZV;rw [e,Aa];split
  ·exact⟨_,rfl⟩
  ·split<;>exact⟨_,rfl⟩
 unfold Wp;by_cases h0:(s.length:Int)>0
 ·obtain⟨x,e,_,_⟩:=IX (xs:=s) (i:=0) (by omega) (by omega);rw [if_pos (by simpa using h0),e,Aa];split
  ·rw [AQ (by omega)];exact G1 _ _ (by rw [lD,List.length_tail];omega)
  ·exact G1 _ _ h
 ·rw [if_neg (by simpa using h0)];unfold zm9;obtain⟨r,e⟩:=zxO s h;rw [e,Aa];split<;>exact⟨_,rfl⟩
def GX (o:AA) (val:Af) (there:Bool):Bool:=if o.ak=6 then !there else there&&val==o.bb
def Dz (got:List BP):List AA→List Ac→Int × Af × List Ac
 | [],ws=>(3, [],ws)
 |o::l,ws=>
  if o.ak=2 then Dz got l (Bk wk ⟨o.af,o.bb,false⟩ ws)else
  if o.ak=3 then Dz got l (Bk wk ⟨o.af, [],true⟩ ws)else
  if(Dp ws got o.af).2.2=true then(if GX o (Dp ws got o.af).1 (Dp ws got o.af).2.1=true then Dz got l ws else(2, [], []))
  else(1,o.af, [])
structure Ec (n:Nat) (ws:List Ac):Prop where
 cf:Dc ws
 len:ws.length≤n
 br: ∀w∈ws,CU w=true
theorem Le {n:Nat} {ws:List Ac} {w:Ac} (h:Ec n ws) (hw:CU w=true):Ec (n+1) (Bk wk w ws):=by
 refine⟨Wx h.cf,Nat.le_trans (wF _) (by have:=h.len;omega),fun y hy=> ?_⟩;rcases(Tu (key:=wk) h.cf y).1 hy with rfl|hy
 ·exact hw
 ·exact h.br y hy.1
theorem rY {o:AA} (h:Gq o):CU ⟨o.af,o.bb,false⟩=true:=by unfold CU Iq;simp [h.key,h.val]
theorem qY {o:AA} (h:Gq o):CU ⟨o.af, [],true⟩=true:=by unfold CU Iq;rw [h.key];rfl
theorem cJ {w:Ac} (h:CU w=true):w.bb.length≤24:=by unfold CU Iq at h;simp only [Ae]at h;exact zxi h.2.1
theorem zyw {w:Ac} (h:CU w=true):w.af.length≤12:=by unfold CU at h;simp only [Ae]at h;exact Td h.1
theorem zvj {ws:List Ac} {got:List BP} {k:Af} (hw: ∀w∈ws,CU w=true) (hg: ∀g∈got,g.bb.length≤2000):(Dp ws got k).1.length≤2000:=by
 unfold Dp;cases e:ws.find? (fun w=>w.af==k)with
 |some w=>have:=cJ (hw w (List.mem_of_find?_eq_some e));show w.bb.length≤2000;omega
 |none=>
  unfold Ox;cases e2:got.find? (fun g=>g.af==k)with
  |some g=>exact hg g (List.mem_of_find?_eq_some e2)
  |none=>simp
theorem zEm {o:AA} (h:Gq o) (Jj:o.ak≠2) (hk3:o.ak≠3) {val:Af} {there:Bool} (hv:val.length≤2000):Zn o val there=some (GX o val there):=by
 have e: ∃r,V9 val=some r:=by unfold V9 aC;rw [AQ (by omega)];exact⟨_,rfl⟩
 obtain⟨r,e⟩:=e;unfold Zn GX;rw [e,Aa];rcases h.kind with h1|h1|h1|h1
 ·exact absurd h1 Jj
 ·exact absurd h1 hk3
 ·rw [h1];rfl
 ·rw [h1];rfl
theorem zE1 {o:AA} (h:Gq o) {val:Af} {there:Bool} (hv:val.length≤2000):aD o val there=some (if o.ak=2∨o.ak=3 then false else !GX o val there):=by
 obtain⟨r,e⟩:=zEK val (by omega);unfold aD GX;rw [e,Aa];rcases h.kind with h1|h1|h1|h1
 ·rw [h1];rfl
 ·rw [h1];rfl
 ·rw [h1];cases there<;>rfl
 ·rw [h1];show some (!there||val !=o.bb)=some (!(there&&val==o.bb));cases there<;>simp [bne]
theorem zHB {ops:List AA} {got:List BP} (hl:ops.length≤1000) (ho: ∀o∈ops,Gq o) (hg:got.length≤2000) (hv: ∀g∈got,g.bb.length≤2000):oN ops got=some (Dz got ops []):=by
 have key: ∀(n q:Nat) (ws:List Ac),q+n=ops.length→Ec q ws→Ay (fun s:Int × List Ac=>IN ops got s.1 s.2) ((q:Int),ws)=some (Dz got (ops.drop q) ws):=by
  intro n
  induction n with
  |zero=>intro q ws hq hw;rw [List.drop_eq_nil_of_le (by omega),Dz];refine Df ?_;show IN ops got q ws=_;unfold IN;rw [if_neg (by simp;omega)]
  |succ n ih=>
   intro q ws hq hw;have Ak:q<ops.length:=by omega
   have Az:=ho _ (List.getElem_mem Ak);have No:=hw.len;have Gi:=Bi Ak (by omega);rw [List.drop_eq_getElem_cons Ak,Dz];by_cases h2:(ops[q]).ak=2
   ·rw [if_pos h2];have e:IN ops got q ws=some (.inl (((q+1:Nat):Int),Bk wk ⟨(ops[q]).af,(ops[q]).bb,false⟩ ws)):=by
     unfold IN;rw [if_pos (by simpa using Ak),AL Ak,Aa,if_pos (by simpa using h2),qL (by omega) hw.cf,Aa,Gi]
    rw [DF (body:=fun s:Int × List Ac=>IN ops got s.1 s.2) e];exact ih (q+1) _ (by omega) (Le hw (rY Az))
   rw [if_neg h2];by_cases h3:(ops[q]).ak=3
   ·rw [if_pos h3];have e:IN ops got q ws=some (.inl (((q+1:Nat):Int),Bk wk ⟨(ops[q]).af, [],true⟩ ws)):=by
     unfold IN;rw [if_pos (by simpa using Ak),AL Ak,Aa,if_neg (by simpa using h2),if_pos (by simpa using h3),qL (by omega) hw.cf,Aa,Gi]
    rw [DF (body:=fun s:Int × List Ac=>IN ops got s.1 s.2) e];exact ih (q+1) _ (by omega) (Le hw (qY Az))
   rw [if_neg h3];have CR:=zvj (k:=(ops[q]).af) hw.br hv;have hb:IN ops got q ws=if(Dp ws got (ops[q]).af).2.2=true then(if GX ops[q] (Dp ws got (ops[q]).af).1 (Dp ws got (ops[q]).af).2.1=true then some (.inl (((q+1:Nat):Int),ws))else some (.inr (some (2, [], []))))else some (.inr (some (1,(ops[q]).af, []))):=by
    unfold IN;rw [if_pos (by simpa using Ak),AL Ak,Aa,if_neg (by simpa using h2),if_neg (by simpa using h3),zA6 (by omega) (by omega) hw.cf,Aa];cases hs:(Dp ws got (ops[q]).af).2.2 with
    |false=>rw [if_pos (by simp),if_neg (by simp)]
    |true=>
     rw [if_neg (by simp),if_pos rfl,zEm Az h2 h3 CR,Aa];have h4: ¬(ops[q]).ak=4:=by rcases Az.kind with h|h|h|h<;>omega
     cases GX ops[q] (Dp ws got (ops[q]).af).1 (Dp ws got (ops[q]).af).2.1 with
     |false=>rfl
     |true=>rw [if_neg (by simp),if_neg (by simpa using h4),if_pos rfl,Gi]
   by_cases hs:(Dp ws got (ops[q]).af).2.2=true
   ·rw [if_pos hs]at hb ⊢;by_cases hk:GX ops[q] (Dp ws got (ops[q]).af).1 (Dp ws got (ops[q]).af).2.1=true
    ·rw [if_pos hk]at hb ⊢;rw [DF (body:=fun s:Int × List Ac=>IN ops got s.1 s.2) hb];exact ih (q+1) _ (by omega) ⟨hw.cf,by omega,hw.br⟩
    ·rw [if_neg hk]at hb ⊢;exact Df hb
   ·rw [if_neg hs]at hb ⊢;exact Df hb
 exact key ops.length 0 [] (by omega) ⟨List.Pairwise.nil,Nat.le_refl _,by simp⟩
theorem zHI {ops:List AA} {got:List BP} (hl:ops.length≤1000) (ho: ∀o∈ops,Gq o) (hg:got.length≤2000) (hv: ∀g∈got,g.bb.length≤2000):oS ops got=some (Dz got ops []):=by
 have key: ∀(n q:Nat) (ws:List Ac),q+n=ops.length→Ec q ws→Ay (fun s:List Ac × Int=>IP ops got s.1 s.2) (ws,(q:Int))=some (Dz got (ops.drop q) ws):=by
  intro n
  induction n with
  |zero=>intro q ws hq hw;rw [List.drop_eq_nil_of_le (by omega),Dz];refine Df ?_;show IP ops got ws q=_;unfold IP;rw [if_neg (by simp;omega)]
  |succ n ih=>
   intro q ws hq hw;have Ak:q<ops.length:=by omega
   have Az:=ho _ (List.getElem_mem Ak);have No:=hw.len;have Gi:=Bi Ak (by omega);have CR:=zvj (k:=(ops[q]).af) hw.br hv;have MZ:=zE1 Az (val:=(Dp ws got (ops[q]).af).1) (there:=(Dp ws got (ops[q]).af).2.1) CR;rw [List.drop_eq_getElem_cons Ak,Dz];by_cases h2:(ops[q]).ak=2
   ·rw [if_pos h2];rw [if_pos (.inl h2)]at MZ;have e:IP ops got ws q=some (.inl (Bk wk ⟨(ops[q]).af,(ops[q]).bb,false⟩ ws,((q+1:Nat):Int))):=by
     unfold IP;rw [if_pos (by simpa using Ak),AL Ak,Aa,rE (by omega) (by omega),Aa,if_neg (by simp [h2]),MZ,Aa,if_neg (by simp),if_pos (by simpa using h2),Mz (by omega) hw.cf,Aa,Gi]
    rw [DF (body:=fun s:List Ac × Int=>IP ops got s.1 s.2) e];exact ih (q+1) _ (by omega) (Le hw (rY Az))
   rw [if_neg h2];by_cases h3:(ops[q]).ak=3
   ·rw [if_pos h3];rw [if_pos (.inr h3)]at MZ;have e:IP ops got ws q=some (.inl (Bk wk ⟨(ops[q]).af, [],true⟩ ws,((q+1:Nat):Int))):=by
     unfold IP;rw [if_pos (by simpa using Ak),AL Ak,Aa,rE (by omega) (by omega),Aa,if_neg (by simp [h3]),MZ,Aa,if_neg (by simp),if_neg (by simpa using h2),if_pos (by simpa using h3),Mz (by omega) hw.cf,Aa,Gi]
    rw [DF (body:=fun s:List Ac × Int=>IP ops got s.1 s.2) e];exact ih (q+1) _ (by omega) (Le hw (qY Az))
   rw [if_neg h3];rw [if_neg (by simp [h2,h3])]at MZ;have hb:IP ops got ws q=if(Dp ws got (ops[q]).af).2.2=true then(if GX ops[q] (Dp ws got (ops[q]).af).1 (Dp ws got (ops[q]).af).2.1=true then some (.inl (ws,((q+1:Nat):Int)))else some (.inr (some (2, [], []))))else some (.inr (some (1,(ops[q]).af, []))):=by
    unfold IP;rw [if_pos (by simpa using Ak),AL Ak,Aa,rE (by omega) (by omega),Aa];cases hs:(Dp ws got (ops[q]).af).2.2 with
    |false=>rw [if_pos (by simp [h2,h3]),if_neg (by simp)]
    |true=>
     rw [if_neg (by simp),if_pos rfl,MZ,Aa];have h4: ¬(ops[q]).ak=4:=by rcases Az.kind with h|h|h|h<;>omega
     cases GX ops[q] (Dp ws got (ops[q]).af).1 (Dp ws got (ops[q]).af).2.1 with
     |false=>rfl
     |true=>rw [if_neg (by simp),if_neg (by simpa using h2),if_neg (by simpa using h3),if_neg (by simpa using h4),if_pos rfl,Gi]
   by_cases hs:(Dp ws got (ops[q]).af).2.2=true
   ·rw [if_pos hs]at hb ⊢;by_cases hk:GX ops[q] (Dp ws got (ops[q]).af).1 (Dp ws got (ops[q]).af).2.1=true
    ·rw [if_pos hk]at hb ⊢;rw [DF (body:=fun s:List Ac × Int=>IP ops got s.1 s.2) hb];exact ih (q+1) _ (by omega) ⟨hw.cf,by omega,hw.br⟩
    ·rw [if_neg hk]at hb ⊢;exact Df hb
   ·rw [if_neg hs]at hb ⊢;exact Df hb
 exact key ops.length 0 [] (by omega) ⟨List.Pairwise.nil,Nat.le_refl _,by simp⟩
theorem cC {got:List BP}: ∀(l:List AA) {n:Nat} {ws:List Ac},(∀o∈l,Gq o)→Ec n ws→Ec (n+l.length) (Dz got l ws).2.2∧((Dz got l ws).1=1→ ∃o∈l,o.af=(Dz got l ws).2.1∧ ∀g∈got,g.af≠o.af)
 | [],n,ws,_,hw=>⟨hw,fun h=>by simp [Dz]at h⟩
 |o::l,n,ws,ho,hw=>by
  have Az:=ho o (by simp);have hl: ∀o∈l,Gq o:=fun x hx=>ho x (by simp [hx]);have up: ∀{w:List Ac},Ec (n+l.length) w→Ec (n+(o::l).length) w:=fun h=>⟨h.cf,by have:=h.len;rw [Ao];omega,h.br⟩
  rw [Dz];split
  ·obtain⟨a,b⟩:=cC (got:=got) l hl (Le hw (rY Az));refine⟨⟨a.cf,by have:=a.len;rw [Ao];omega,a.br⟩,fun h=> ?_⟩;obtain⟨x,hx,h1,h2⟩:=b h;exact⟨x,by simp [hx],h1,h2⟩
  ·split
   ·obtain⟨a,b⟩:=cC (got:=got) l hl (Le hw (qY Az));refine⟨⟨a.cf,by have:=a.len;rw [Ao];omega,a.br⟩,fun h=> ?_⟩;obtain⟨x,hx,h1,h2⟩:=b h;exact⟨x,by simp [hx],h1,h2⟩
   ·split
    ·split
     ·obtain⟨a,b⟩:=cC (got:=got) l hl hw;refine⟨up a,fun h=> ?_⟩;obtain⟨x,hx,h1,h2⟩:=b h;exact⟨x,by simp [hx],h1,h2⟩
     ·exact⟨⟨List.Pairwise.nil,by simp,by simp⟩,fun h=>by simp at h⟩
    ·rename_i hs;refine⟨⟨List.Pairwise.nil,by simp,by simp⟩,fun _=>⟨o,by simp,rfl,fun g hg e=> ?_⟩⟩;apply hs;unfold Dp;cases e1:ws.find? (fun w=>w.af==o.af)with
     |some w=>rfl
     |none=>
      unfold Ox;cases e2:got.find? (fun g=>g.af==o.af)with
      |some g=>rfl
      |none=>rw [List.find?_eq_none]at e2;exact absurd (by simpa using e) (e2 g hg)
def mu (ops:List AA) (got:List BP):Nat:=(ops.filter fun o=>got.all fun g=>g.af !=o.af).length
theorem zJf {ops:List AA} {got:List BP} {g:BP} {o:AA} (ho:o∈ops) (hk:o.af=g.af) (hn: ∀x∈got,x.af≠o.af):mu ops (got++ [g])<mu ops got:=by
 unfold mu;have e:(fun o:AA=>(got++ [g]).all fun x=>x.af !=o.af)=fun o=>(got.all fun x=>x.af !=o.af)&&(g.af !=o.af):=by funext x;rw [List.all_append];simp
 have e2:ops.filter (fun o:AA=>(got++ [g]).all fun x=>x.af !=o.af)=(ops.filter fun o=>got.all fun x=>x.af !=o.af).filter fun o=>g.af !=o.af:=by rw [e,List.filter_filter];congr 1;funext x;rw [Bool.and_comm]
 rw [e2];have hm:o∈ops.filter fun o=>got.all fun x=>x.af !=o.af:=List.mem_filter.2 ⟨ho,AK.2 fun x hx=>by simpa using hn x hx⟩;generalize ops.filter (fun o=>got.all fun x=>x.af !=o.af)=l at hm;have Ak: ∀(l:List AA),o∈l→(l.filter fun o=>g.af !=o.af).length<l.length:=by
  intro l
  induction l with
  |nil=>intro h;simp at h
  |cons y l ih=>
   intro h;rw [List.filter_cons];rcases Ag.1 h with rfl|h
   ·rw [if_neg (by simp [hk])];have:=List.length_filter_le (fun o:AA=>g.af !=o.af) l;rw [Ao];omega
   ·have:=ih h;split
    ·rw [Ao,Ao];omega
    ·rw [Ao];omega
 exact Ak l hm
theorem zJS (ops:List AA) (got:List BP):mu ops got≤ops.length:=List.length_filter_le _ _
def IK (rows:List Ac) (ops:List AA):Nat→List BP→List Ac × Bool
 |0,_=>([],false)
 |n+1,got=>if(Dz got ops []).1=1 then IK rows ops n (got++ [Dn rows (Dz got ops []).2.1])else((Dz got ops []).2.2,(Dz got ops []).1==3)
structure QH (rows:List Ac):Prop where
 cf:Dc rows
 len:rows.length≤24
 br: ∀w∈rows,CU w=true
theorem zFv {rows:List Ac} {k:Af} (h:QH rows):(Dn rows k).bb.length≤2000∧(Dn rows k).af=k:=by
 unfold Dn;cases e:rows.find? (fun w=>w.af==k)with
 |some w=>have:=cJ (h.br w (List.mem_of_find?_eq_some e));exact⟨by show w.bb.length≤2000;omega,rfl⟩
 |none=>exact⟨by simp,rfl⟩
theorem wR {rows:List Ac} {ops:List AA} (hl:ops.length≤8) (ho: ∀o∈ops,Gq o) (hr:QH rows): ∀(n:Nat) (got:List BP),mu ops got<n→got.length+n≤1000→(∀g∈got,g.bb.length≤2000)→
  (∃g,Ay (fun s:List BP=>PU rows ops s) got=some (g,IK rows ops n got))∧(∃g,Ay (fun s:List BP=>P2 rows ops s) got=some (g,IK rows ops n got))∧Ec 8 (IK rows ops n got).1
 |0,got,hm,_,_=>by omega
 |n+1,got,hm,hg,hv=>by
  have hi:=zHB (got:=got) (by omega) ho (by omega) hv;have hs:=zHI (got:=got) (by omega) ho (by omega) hv;obtain⟨ga,gb⟩:=cC (got:=got) ops (n:=0) (ws:= []) ho ⟨List.Pairwise.nil,Nat.le_refl _,by simp⟩;have J8:=hr.len;rw [IK];generalize Dz got ops []=r at hi hs ga gb;by_cases h1:r.1=1
  ·rw [if_pos h1];obtain⟨o,hom,Az,J5⟩:=gb h1;obtain⟨t1,t2⟩:=zFv (k:=r.2.1) hr;have hq:(((got).length:Int)+(([Dn rows r.2.1]:List BP).length:Int))*40≤140737488355328∧((got).length:Int)+(([Dn rows r.2.1]:List BP).length:Int)≤140737488355328:=by
    rw [AH];omega
   have ei:PU rows ops got=some (.inl (got++ [Dn rows r.2.1])):=by unfold PU;rw [hi,Aa,if_neg (by simp [h1]),zFB (by omega) hr.cf,Aa,AQ hq]
   have es:P2 rows ops got=some (.inl (got++ [Dn rows r.2.1])):=by unfold P2;rw [hs,Aa,if_neg (by simp [h1]),zGS (by omega),Aa,AQ hq]
   rw [DF (body:=fun s:List BP=>PU rows ops s) ei,DF (body:=fun s:List BP=>P2 rows ops s) es];refine wR hl ho hr n _ ?_ (by rw [Ar,AH];omega) fun g Cm=> ?_
   ·have:=zJf (g:=Dn rows r.2.1) hom (Az.trans t2.symm) J5;omega
   ·rcases Ai.1 Cm with h|h
    ·exact hv g h
    ·rw [List.mem_singleton]at h;subst h;exact t1
  ·rw [if_neg h1];refine⟨⟨got,Df ?_⟩,⟨got,Df ?_⟩,ga.cf,by have:=ga.len;show r.2.2.length≤8;omega,ga.br⟩
   ·show PU rows ops got=_;unfold PU;rw [hi,Aa,if_pos (by simpa using h1)]
   ·show P2 rows ops got=_;unfold P2;rw [hs,Aa,if_pos (by simpa using h1)]
def FE (rows:List Ac) (ops:List AA):List Ac × Bool:=IK rows ops 9 []
theorem uG {rows:List Ac} {ops:List AA} (hl:ops.length≤8) (ho: ∀o∈ops,Gq o) (hr:QH rows):(∃g,nV rows ops=some (g,FE rows ops))∧(∃g,oI rows ops=some (g,FE rows ops))∧Ec 8 (FE rows ops).1:=by have:=zJS ops [];exact wR hl ho hr 9 [] (by omega) (by simp) (by simp)
theorem rS {s:Af} (h:field s=true):s.length≤3:=by unfold field at h;simp only [Ae]at h;have:=Ca.1 h.1;omega
theorem tX {t:Ad} {r:AE} (h:Be t r=true) (c:Int):(Db r c).length≤3:=by
 unfold Be at h;simp only [Ae]at h;unfold Db;cases e:r.ay[c.toNat]? with
 |none=>simp
 |some s=>exact rS (AK.1 h.2 s (List.mem_of_getElem? e))
theorem rR {k:Nat}: ∀{xs:List Af},(∀s∈xs,s.length≤k)→EB xs≤k*xs.length
 | [],_=>by simp [EB]
 |s::xs,h=>by have h1:=h s (by simp);have h2:=rR (k:=k) (xs:=xs) fun y hy=>h y (by simp [hy]);simp only [EB,Ao,Nat.mul_add,Nat.mul_one];omega
theorem zFN {t:Ad} {r:AE} (hg:A0 t=true) (h:Be t r=true):(AR t r).af.length≤5∧(AR t r).bb.length≤20:=by
 have hn:=S5 (La hg);have hc:=Jw hg;have hv:=tX h 0;have h':=h;unfold Be at h';simp only [Ae,beq_iff_eq]at h';have Ck: ∀s∈r.ay,s.length≤3:=fun s hs=>rS (AK.1 h'.2 s hs);constructor
 ·unfold AR;have e:(r.ay.head?).getD []=Db r 0:=by unfold Db;rw [List.head?_eq_getElem?];rfl
  simp only [e,Ar,AH];omega
 ·have h1:=tI r.ay.tail [44];have h2:=rR (k:=3) (xs:=r.ay.tail) fun s hs=>Ck s (List.mem_of_mem_tail hs);have h3:r.ay.tail.length≤3:=by rw [List.length_tail];omega
  rw [AH]at h1;show(Lib.join r.ay.tail [44]).length≤20;omega
theorem zEo {t:Ad} {n:Af} {c:Int} {r:AE} (hg:A0 t=true) (hn:n.length=1) (h:Be t r=true):(Bv t n c r).length≤11:=by have h1:=S5 (La hg);have h2:=tX h c;have h3:=tX h 0;unfold Bv head;simp only [Ar,AH];omega
theorem xD {α β:Type} {P:β→Prop} {f:α→List β}: ∀(xs:List α) (a:List β),(∀x∈xs,∀o∈f x,P o)→(∀o∈a,P o)→ ∀o∈xs.foldl (fun a x=>a++f x) a,P o
 | [],a,_,h=>h
 |x::xs,a,hf,h=>xD xs (a++f x) (fun y hy=>hf y (by simp [hy])) fun o ho=>by
  rcases Ai.1 ho with ho|ho
  ·exact h o ho
  ·exact hf x (by simp) o ho
theorem zxS {α β:Type} {f:α→List β} (hf: ∀x,(f x).length≤2): ∀(xs:List α) (a:List β),(xs.foldl (fun a x=>a++f x) a).length≤a.length+2*xs.length
 | [],a=>by simp
 |x::xs,a=>by have h1:=zxS hf xs (a++f x);have h2:=hf x;rw [Ar]at h1;rw [List.foldl_cons,Ao];omega
def Nz (s:Af):Prop:= ∀b∈s,(Fl b||([46,47]:Af).contains b)=true
def zJ1 (s:Af):Prop:= ∀b∈s,(Fl b||([46,45,44,95]:Af).contains b)=true
theorem zDL {s:Af} (h:field s=true): ∀b∈s,Fl b=true:=by unfold field Kz at h;simp only [Ae]at h;intro b hb;have:=AK.1 h.2 b hb;simpa using this
theorem S7 {s:Af} {k:Int} (h:CH s k=true): ∀b∈s,Fl b=true:=by unfold CH at h;simp only [Ae]at h;intro b hb;have:=AK.1 h.1 b hb;unfold small at this;unfold Fl;simp only [Bool.not_eq_true',Bool.or_eq_false_iff,decide_eq_false_iff_not]at this;simp only [Bool.or_eq_true,Ae,decide_eq_true_eq];left;omega
theorem Tc {s:Af} (h: ∀b∈s,Fl b=true):Nz s:=fun b hb=>by rw [h b hb];rfl
theorem Nz.app {s u:Af} (h:Nz s) (k:Nz u):Nz (s++u):=fun b hb=>by
 rcases Ai.1 hb with hb|hb
 ·exact h b hb
 ·exact k b hb
theorem zJL:Nz [46]:=fun b hb=>by rw [List.mem_singleton]at hb;subst hb;decide
theorem kL:Nz [47]:=fun b hb=>by rw [List.mem_singleton]at hb;subst hb;decide
theorem zu5 {s:Af} (h1:1≤s.length) (h2:s.length≤12) (h:Nz s):An s=true:=by unfold An Kz;rw [Ca.2 ⟨by omega,by omega⟩,AK.2 h];rfl
theorem zBa {s:Af} (h2:s.length≤24) (h:zJ1 s):Gl s=true:=by unfold Gl Kz;rw [show decide ((s.length:Int)≤24)=true by simp;omega,AK.2 h];rfl
theorem zE2 {xs:List Af} (h: ∀x∈xs,∀b∈x,Fl b=true):zJ1 (Lib.join xs [44]):=by
 cases xs with
 |nil=>intro b hb;simp [Lib.join_nil]at hb
 |cons x r=>
  intro b hb;rw [Lib.join_cons]at hb;rcases Ai.1 hb with hb|hb
  ·rw [h x (by simp) b hb];rfl
  ·unfold Lib.joinTail at hb;obtain⟨l,hl,XM⟩:=List.mem_flatten.1 hb;obtain⟨y,hy,rfl⟩:=List.mem_map.1 hl;rcases Ai.1 XM with hb|hb
   ·rw [List.mem_singleton]at hb;subst hb;decide
   ·rw [h y (by simp [hy]) b hb];rfl
theorem qJ {t:Ad} {r:AE} (h:Be t r=true): ∀x∈r.ay,∀b∈x,Fl b=true:=by unfold Be at h;simp only [Ae]at h;exact fun x hx=>zDL (AK.1 h.2 x hx)
theorem TF {t:Ad} {r:AE} (h:Be t r=true) (c:Int): ∀b∈Db r c,Fl b=true:=by
 unfold Db;cases e:r.ay[c.toNat]? with
 |none=>simp
 |some s=>exact qJ h s (List.mem_of_getElem? e)
theorem N8 {t:Ad} {r:AE} (hg:A0 t=true) (h:Be t r=true):An (AR t r).af=true∧Gl (AR t r).bb=true:=by
 have hl:=zFN hg h;have e:(AR t r).af=t.ae++ [47]++Db r 0:=by unfold AR Db;rw [List.head?_eq_getElem?];rfl
 refine⟨zu5 ?_ (by omega) ?_,zBa (by omega) ?_⟩
 ·rw [e];simp;omega
 ·rw [e];exact((Tc (S7 (La hg))).app kL).app (Tc (TF h 0))
 ·exact zE2 fun x hx=>qJ h x (List.mem_of_mem_tail hx)
theorem Wz {t:Ad} {n:Af} {c:Int} {r:AE} (hg:A0 t=true) (hn:CH n 1=true) (h:Be t r=true):An (Bv t n c r)=true:=by
 have hl:=zEo (c:=c) hg (S5 hn) h;refine zu5 ?_ (by omega) ?_
 ·unfold Bv;simp;omega
 ·unfold Bv head;exact((((((Tc (S7 (La hg))).app zJL).app (Tc (S7 hn))).app kL).app (Tc (TF h c))).app kL).app (Tc (TF h 0))
theorem wL {t:Ad} {a:Bb} (hg:A0 t=true) (h:HO t a=true):(Ea t a).length≤8∧ ∀o∈Ea t a,Gq o:=by
 have ho:a.ak≠1→Be t a.bq=true:=fun h1=>by
  unfold HO at h;rw [if_neg h1]at h;by_cases h2:a.ak=2
  ·rw [if_pos h2,Ae]at h;exact h.1
  rw [if_neg h2]at h;by_cases h3:a.ak=3
  ·rw [if_pos h3,Ae]at h;exact h.1
  rw [if_neg h3]at h;cases h
 have hn:a.ak≠2→Be t a.bz=true:=fun h2=>by
  unfold HO at h;by_cases h1:a.ak=1
  ·rw [if_pos h1,Ae]at h;exact h.2
  rw [if_neg h1,if_neg h2]at h;by_cases h3:a.ak=3
  ·rw [if_pos h3,Ae,Ae]at h;exact h.2.1
  rw [if_neg h3]at h;cases h
 have hc:=Jw hg;have v0:Gl ([]:Af)=true:=by decide
 constructor
 ·have h1:=zxS (qN t a) t.ah (Lk t a);rw [pW]at h1;unfold Ea;omega
 ·refine xD _ _ (fun x hx o hm=> ?_) (fun o hm=> ?_)
  ·have Jm:=(EA hg hx).1;unfold Ha Lv JE at hm;rcases Ai.1 hm with hm|hm
   ·split at hm
    ·rename_i q;rw [List.mem_singleton]at hm;subst hm;refine⟨?_,v0,rfl,by simp,fun _=>rfl⟩;show An (E7 t a x)=true;unfold E7 at q ⊢;by_cases h1:a.ak=1
     ·rw [if_pos h1]at q;exact absurd rfl q.1
     ·rw [if_neg h1];exact Wz hg Jm (ho h1)
    ·simp at hm
   ·split at hm
    ·rename_i q;rw [List.mem_singleton]at hm;subst hm;refine⟨?_,v0,rfl,by simp,fun _=>rfl⟩;show An (Eb t a x)=true;unfold Eb at q ⊢;by_cases h1:a.ak=2
     ·rw [if_pos h1]at q;exact absurd rfl q.1
     ·rw [if_neg h1];exact Wz hg Jm (hn h1)
    ·simp at hm
  ·unfold Lk at hm;split at hm
   ·rename_i q;have w:=N8 hg (hn (by omega));simp only [Ag,List.not_mem_nil,or_false]at hm;rcases hm with rfl|rfl
    ·exact⟨w.1,v0,rfl,by simp,fun _=>rfl⟩
    ·exact⟨w.1,w.2,rfl,by simp,fun k=>by simp at k⟩
   ·rename_i q1;have w1:=N8 hg (ho q1);split at hm
    ·simp only [Ag,List.not_mem_nil,or_false]at hm;rcases hm with rfl|rfl
     ·exact⟨w1.1,w1.2,rfl,by simp,fun k=>by simp at k⟩
     ·exact⟨w1.1,v0,rfl,by simp,fun _=>rfl⟩
    ·rename_i q2;have w2:=N8 hg (hn q2);simp only [Ag,List.not_mem_nil,or_false]at hm;rcases hm with rfl|rfl
     ·exact⟨w1.1,w1.2,rfl,by simp,fun k=>by simp at k⟩
     ·exact⟨w1.1,w2.2,rfl,by simp,fun k=>by simp at k⟩
theorem Ei {l:List Ac} (h:B0 l=true):QH l∧ ∀w∈l,w.bh=false:=by unfold B0 at h;rw [Ae]at h;have hr:=zst h.1;have h1:=h.1;unfold Ku at h1;simp only [Ae,decide_eq_true_eq]at h1;exact⟨⟨hr,by omega,AK.1 h1.2.1⟩,fun w hw=>by simpa using AK.1 h.2 w hw⟩
theorem bJ {l:List Ac} (hr:Dc l) (hg: ∀w∈l,CU w=true) (hn: ∀w∈l,w.bh=false):B0 l=decide ((l.length:Int)≤24):=by
 have h1:Ln (l.map (·.af))=true:=by rw [pX,bN];exact(cN (r:=fun a b:Ac=>bl a.af b.af) fun a b c p q=>Gc p q).2 hr
 unfold B0 Ku;rw [h1,AK.2 hg,show(l.all fun w=> !w.bh)=true from AK.2 fun w hw=>by rw [hn w hw];rfl];simp
theorem aW {l:List Ac} (hl:l.length≤2000000) (hg: ∀w∈l,CU w=true):Lr l:=
 ⟨hl,fun w hw=>⟨by have:=zyw (hg w hw);omega,by have:=cJ (hg w hw);omega⟩⟩
def Dk (rows ws:List Ac):List Ac:=(ws.foldl (fun o w=>Bk wk w o) rows).filter fun w=> !w.bh
theorem zD: ∀(ws:List Ac) {n:Nat} {rows:List Ac},Ec n rows→(∀w∈ws,CU w=true)→Ec (n+ws.length) (ws.foldl (fun o w=>Bk wk w o) rows)
 | [],n,rows,h,_=>h
 |w::ws,n,rows,h,hw=>by have:=zD ws (Le h (hw w (by simp))) fun y hy=>hw y (by simp [hy]);exact⟨this.cf,by have:=this.len;rw [Ao];rw [List.foldl_cons];omega,this.br⟩
theorem zys {rows ws:List Ac} (hr:QH rows) (hw:Ec 8 ws):Dc (Dk rows ws)∧(Dk rows ws).length≤32∧(∀w∈Dk rows ws,CU w=true)∧ ∀w∈Dk rows ws,w.bh=false:=by have h:=zD ws (n:=24) (rows:=rows) ⟨hr.cf,hr.len,hr.br⟩ hw.br;have hl:=hw.len;unfold Dk;refine⟨El.filter h.cf _,Nat.le_trans (List.length_filter_le _ _) (by have:=h.len;omega),fun w hm=>h.br w (List.mem_filter.1 hm).1,fun w hm=>by simpa using(List.mem_filter.1 hm).2⟩
theorem zBF {rows ws:List Ac} (hr:QH rows) (hw:Ec 8 ws):Z5 rows ws=some (if(Dk rows ws).length>24 then([],false)else(Dk rows ws,true)):=by
 have J8:=hr.len;have No:=hw.len;have hc:PK rows=some rows:=Ob (by omega) (by omega);unfold Z5;rw [hc,Aa];have h1:=Gb (xs:=ws) (body:=fun s:Int × List Ac=>Sx ws s.1 s.2) (fun i (o:List Ac)=>(i,o)) (fun o w=>Bk wk w o) (fun o=>nA o) (fun i o=>Ec (24+i) o)
  (fun i hi o hI=>by have hI:Ec (24+i) o:=hI;have hol:=hI.len;refine⟨?_,Le hI (hw.br _ (List.getElem_mem hi))⟩;show Sx ws i o=_;unfold Sx;rw [if_pos (by simpa using hi),AL hi,Aa,qL (by omega) hI.cf,Aa,Bi hi (by omega)])
  (fun o hI=>by show Sx ws ws.length o=_;unfold Sx;rw [if_neg (by simp)]) (s:=rows) ⟨hr.cf,hr.len,hr.br⟩
 rw [h1.1];have hK:Ec (24+ws.length) (ws.foldl (fun o w=>Bk wk w o) rows):=h1.2;have G2:=hK.len;unfold nA Jr;rw [AQ (by omega),cA (p:=fun y0_=>nN y0_) (fun w:Ac=>w.bh) (fun w _=>rfl),Aa];show(if decide (((Dk rows ws).length:Int)>24)=true then _ else _)=_;by_cases hq:(Dk rows ws).length>24
 ·rw [if_pos (decide_eq_true (by omega)),if_pos hq]
 ·rw [if_neg (by rw [decide_eq_true_eq];omega),if_neg hq];rfl
theorem zBt {rows ws:List Ac} (hr:QH rows) (hw:Ec 8 ws):ZM rows ws=some (Dk rows ws):=by
 have J8:=hr.len;have No:=hw.len;have hq:((([]:List Ac).length:Int)+((rows).length:Int))*40≤140737488355328∧(([]:List Ac).length:Int)+((rows).length:Int)≤140737488355328:=by rw [List.length_nil];omega
 unfold ZM;rw [AQ hq];have h1:=Gb (xs:=ws) (body:=fun s:Int × List Ac=>Sd ws s.1 s.2) (fun i (o:List Ac)=>(i,o)) (fun o w=>Bk wk w o) (fun o=>mO o) (fun i o=>Ec (24+i) o)
  (fun i hi o hI=>by have hI:Ec (24+i) o:=hI;have hol:=hI.len;refine⟨?_,Le hI (hw.br _ (List.getElem_mem hi))⟩;show Sd ws i o=_;unfold Sd;rw [if_pos (by simpa using hi),AL hi,Aa,Mz (by omega) hI.cf,Aa,Bi hi (by omega)])
  (fun o hI=>by show Sd ws ws.length o=_;unfold Sd;rw [if_neg (by simp)]) (s:=rows) ⟨hr.cf,hr.len,hr.br⟩
 rw [h1.1];have hK:Ec (24+ws.length) (ws.foldl (fun o w=>Bk wk w o) rows):=h1.2;have G2:=hK.len;unfold Dk;generalize ws.foldl (fun o w=>Bk wk w o) rows=l at G2;unfold mO;have h2:=Gb (xs:=l) (body:=fun s:List Ac × Int=>Sg l s.1 s.2) (fun i (o:List Ac)=>(o,i)) (fun o w=>if(!w.bh)=true then o++ [id w]else o) (fun o=>some o) (fun i o=>o.length≤i)
  (fun i hi o hI=>by
   have hI:o.length≤i:=hI;have hr:(((o).length:Int)+(([l[i]]:List Ac).length:Int))*40≤140737488355328∧((o).length:Int)+(([l[i]]:List Ac).length:Int)≤140737488355328:=by rw [AH];omega
   refine⟨?_,by show List.length _≤_;split;rw [Ar,AH];omega;omega⟩;show Sg l o i=_;unfold Sg;rw [if_pos (by simpa using hi),AL hi,Aa,Bi hi (by omega)];cases(!(l[i]).bh)with
   |false=>rfl
   |true=>rw [if_pos rfl,AQ hr];rfl)
  (fun o _=>by show Sg l o l.length=_;unfold Sg;rw [if_neg (by simp)]) (s:= []) (Nat.le_refl _)
 refine h2.1.trans ?_;rw [Tb (fun w:Ac=> !w.bh) id l []];simp
def Bh (st:List Ac) (ops:List AA):List Ac × Bool:=if(FE st ops).2=true∧(Dk st (FE st ops).1).length≤24 then(Dk st (FE st ops).1,true)else(st,false)
theorem zyI {st:List Ac} {ops:List AA} (hl:ops.length≤8) (ho: ∀o∈ops,Gq o) (hg:B0 st=true):We st ops=some (Bh st ops):=by
 obtain⟨hr,_⟩:=Ei hg;obtain⟨⟨g,e⟩,_,hw⟩:=uG hl ho hr;have J8:=hr.len;have hq:((([]:List Ac).length:Int)+((st).length:Int))*40≤140737488355328∧(([]:List Ac).length:Int)+((st).length:Int)≤140737488355328:=by rw [List.length_nil];omega
 unfold We Bh;rw [e,Aa,zBF hr hw,Aa];cases h1:(FE st ops).2 with
 |false=>rw [if_pos (by simp),AQ hq,if_neg (by simp)]
 |true=>
  by_cases h2:(Dk st (FE st ops).1).length>24
  ·rw [if_pos h2,if_pos (by simp),AQ hq,if_neg (by omega)]
  ·rw [if_neg h2,if_neg (by simp),if_pos ⟨rfl,by omega⟩]
theorem zBs {ops:List AA} (hl:ops.length≤8) (ho: ∀o∈ops,Gq o):aU ops=some true:=by
 have h1: ∀o:AA,Gq o→bL o=some true:=by
  intro o h;have hk:=Td h.key;have hv:=zxi h.val;unfold bL oD;rw [kA (by omega),Aa,h.key,if_neg (by simp)];rcases h.kind with k|k|k|k
  ·rw [k];simp [kF (s:=o.bb) (by omega),h.val,h.oq]
  ·have:=h.none (.inl k);rw [k];simp [this,h.oq]
  ·have:=h.none (.inr k);rw [k];simp [this,h.oq]
  ·rw [k];simp [kF (s:=o.bb) (by omega),h.val,h.oq]
 unfold aU;rw [Kx (xs:=ops) (body:=fun s:Int=>So ops s) (fun _=>true) false (nU ops) (fun i hi=>by
  show So ops i=_;unfold So;rw [if_pos (by simpa using hi),AL hi,Aa,h1 _ (ho _ (List.getElem_mem hi)),Aa,if_neg (by simp),Bi hi (by omega),if_pos rfl]) (by
  show So ops ops.length=_;unfold So;rw [if_neg (by simp)]),if_pos (AK.2 fun _ _=>rfl)]
 unfold nU;simp;omega
theorem Yt {st:List Ac} {ops:List AA} (hl:ops.length≤8) (ho: ∀o∈ops,Gq o) (hg:B0 st=true):Qd st ops=some (Bh st ops):=by
 obtain⟨hr,_⟩:=Ei hg;obtain⟨_,⟨g,e⟩,hw⟩:=uG hl ho hr;have J8:=hr.len;have hq:((([]:List Ac).length:Int)+((st).length:Int))*40≤140737488355328∧(([]:List Ac).length:Int)+((st).length:Int)≤140737488355328:=by rw [List.length_nil];omega
 have KR: ∀b:Bool,((([]:List Bool).length:Int)+(([b]:List Bool).length:Int))*1≤140737488355328∧(([]:List Bool).length:Int)+(([b]:List Bool).length:Int)≤140737488355328:=by intro b;rw [List.length_nil,AH];omega
 obtain⟨p1,p2,p3,p4⟩:=zys hr hw;have hv7:K6 (Dk st (FE st ops).1)=some (decide (((Dk st (FE st ops).1).length:Int)≤24)):=by rw [Qw (aW (by omega) p3),bJ p1 p3 p4]
 have GL:IntKind.i64.wrap ((0:Int)+1)=1:=by decide
 have key:ZL st [ops]=some ((Bh st ops).1, [(Bh st ops).2],true):=by
  unfold ZL;rw [Qw (aW (by omega) hr.br),Aa,hg,if_neg (by simp)];have b0:PY st [ops] 0=some (.inl 1):=by unfold PY;rw [if_pos (by simp),show getI [ops] 0=some ops from rfl,Aa,zBs hl ho,Aa,if_neg (by simp),GL]
  have b1:PY st [ops] 1=some (.inr (mM st [ops])):=by unfold PY;rw [if_neg (by simp)]
  rw [DF (body:=fun s:Int=>PY st [ops] s) b0,Df (body:=fun s:Int=>PY st [ops] s) b1];unfold mM;rw [AQ hq];have c0:PZ [ops] [] 0 st=some (.inl ([(Bh st ops).2],1,(Bh st ops).1)):=by
   unfold PZ Bh;rw [if_pos (by simp),show getI [ops] 0=some ops from rfl,Aa,e,Aa,zBt hr hw,Aa];cases h1:(FE st ops).2 with
   |false=>rw [if_neg (by simp),AQ (KR _),if_neg (by simp),GL];rfl
   |true=>
    rw [if_pos rfl,hv7,Aa];by_cases h2:(Dk st (FE st ops).1).length≤24
    ·have h3:decide (((Dk st (FE st ops).1).length:Int)≤24)=true:=by simp;omega
     rw [h3,if_pos rfl,AQ (KR _),if_pos ⟨rfl,h2⟩,GL];rfl
    ·have h3:decide (((Dk st (FE st ops).1).length:Int)≤24)=false:=by simp;omega
     rw [h3,if_neg (by simp),AQ (KR _),if_neg (by omega),GL];rfl
  have c1: ∀(bs:List Bool) (l:List Ac),PZ [ops] bs 1 l=some (.inr (some (l,bs,true))):=by intro bs l;unfold PZ;rw [if_neg (by simp)]
  rw [DF (body:=fun s:List Bool × Int × List Ac=>PZ [ops] s.1 s.2.1 s.2.2) c0,Df (body:=fun s:List Bool × Int × List Ac=>PZ [ops] s.1 s.2.1 s.2.2) (c1 _ _)]
 unfold Qd;rw [key,Aa,if_pos (by simp)];rfl
theorem Mr {st:List Ac} {ops:List AA} (hl:ops.length≤8) (ho: ∀o∈ops,Gq o) (hg:B0 st=true):B0 (Bh st ops).1=true:=by
 obtain⟨hr,_⟩:=Ei hg;obtain⟨_,_,hw⟩:=uG hl ho hr;obtain⟨p1,p2,p3,p4⟩:=zys hr hw;unfold Bh;split
 ·rename_i h;show B0 (Dk st (FE st ops).1)=true;rw [bJ p1 p3 p4];have:=h.2;simp;omega
 ·exact hg
theorem bV {c:UInt8}: ∀{p q:Af},(∀b∈p,b≠c)→B4 c (p++ [c]++q)=p::B4 c q:=fun{p q} h=>by rw [List.append_assoc];exact NZ h
theorem QF {b:UInt8} (h:Fl b=true):b≠47∧b≠44∧b≠46:=by refine⟨?_, ?_, ?_⟩<;>(rintro rfl;revert h;decide)
theorem zHq {t:Ad} {n:Af} (hg:A0 t=true) (hn:CH n 1=true): ∀b∈head t n,b≠47:=by
 intro b hb;unfold head at hb;simp only [Ai,List.mem_singleton]at hb;rcases hb with(hb|hb)|hb
 ·exact(QF (S7 (La hg) b hb)).1
 ·subst hb;decide
 ·exact(QF (S7 hn b hb)).1
theorem Tm {t:Ad} {n:Af} {c:Int} {r:AE} (hg:A0 t=true) (hn:CH n 1=true) (h:Be t r=true):B4 47 (Bv t n c r)= [head t n,Db r c,Db r 0]:=by unfold Bv;rw [show head t n++ [47]++Db r c++ [47]++Db r 0=head t n++ [47]++(Db r c++ [47]++Db r 0) by simp,bV (zHq hg hn),bV fun b hb=>(QF (TF h c b hb)).1,Mo fun b hb=>(QF (TF h 0 b hb)).1]
theorem IV (t:Ad) (r:AE):(AR t r).af=t.ae++ [47]++Db r 0:=by unfold AR Db;rw [List.head?_eq_getElem?];rfl
theorem zyl {t:Ad} {r:AE} (hg:A0 t=true) (h:Be t r=true):B4 47 (AR t r).af= [t.ae,Db r 0]:=by rw [IV,bV fun b hb=>(QF (S7 (La hg) b hb)).1,Mo fun b hb=>(QF (TF h 0 b hb)).1]
theorem zx2 {t:Ad} {n:Af} {r:AE} (hg:A0 t=true) (h:Be t r=true):C6 t n (AR t r).af=false:=by unfold C6;rw [zyl hg h]
theorem zyB {t:Ad} {r:AE} {c:Int} (h:Be t r=true) (h0:0≤c) (h1:c≤(t.ar.length:Int)-1):field (Db r c)=true:=by
 unfold Be at h;simp only [Ae,beq_iff_eq]at h;have hl:c.toNat<r.ay.length:=by have:=h.1;omega
 unfold Db;rw [List.getElem?_eq_getElem hl];exact AK.1 h.2 _ (List.getElem_mem hl)
theorem Qk {t:Ad} {n m:Af} {c:Int} {r:AE} (hg:A0 t=true) (hm:CH m 1=true) (h:Be t r=true) (h0:0≤c) (h1:c≤(t.ar.length:Int)-1):C6 t n (Bv t m c r)=decide (m=n):=by
 have hc:=Jw hg;unfold C6;rw [Tm hg hm h];simp only [zyB h h0 h1,zyB h (show(0:Int)≤0 by omega) (by omega),Bool.and_true];rw [Bool.eq_iff_iff];simp only [beq_iff_eq,decide_eq_true_eq];unfold head;constructor
 ·intro e;exact List.append_cancel_left e
 ·rintro rfl;rfl
theorem ztU {t:Ad} {n:Af} {c:Int} {r r':AE} (hg:A0 t=true) (hn:CH n 1=true) (h:Be t r=true) (h':Be t r'=true) (e:Bv t n c r=Bv t n c r'):Db r 0=Db r' 0:=by have h1:=Tm (c:=c) hg hn h;rw [e,Tm hg hn h']at h1;simp only [List.cons.injEq,and_true]at h1;exact h1.2.2.symm
theorem Wr {t:Ad} {n:Af} {c:Int} {r r':AE} (hg:A0 t=true) (hn:CH n 1=true) (h:Be t r=true) (h':Be t r'=true):(AR t r).af≠Bv t n c r':=by intro e;have h1:=zyl hg h;rw [e,Tm hg hn h']at h1;simp at h1
theorem zBg {xs:List Af} (hx:xs≠ []) (h: ∀x∈xs,∀b∈x,b≠44):B4 44 (Lib.join xs [44])=xs:=by
 induction xs with
 |nil=>exact absurd rfl hx
 |cons x r ih=>
  cases r with
  |nil=>rw [Lib.join_one,Mo (h x (by simp))]
  |cons y r=>
   have e:Lib.join (x::y::r) [44]=x++ [44]++Lib.join (y::r) [44]:=by rw [Lib.join_cons,Lib.join_cons];simp [Lib.joinTail]
   rw [e,bV (h x (by simp)),ih (by simp) fun z hz=>h z (by simp [hz])]
theorem Tt {t:Ad} {r:AE} (hg:A0 t=true) (h:Be t r=true):B6 (AR t r)=r:=by
 have hc:=Jw hg;have hn:=S5 (La hg);have hl:=h;unfold Be at hl;simp only [Ae,beq_iff_eq]at hl;have hf:=qJ h;obtain⟨vs⟩:=r;cases vs with
 |nil=>simp at hl;omega
 |cons v vs=>
  have A3:vs≠ []:=by rintro rfl;simp at hl;omega
  unfold B6 AR;simp only [List.head?_cons,Option.getD_some,List.tail_cons];rw [zBg A3 fun x hx b hb=>(QF (hf x (by simp [hx]) b hb)).2.1];congr 1;congr 1;have:(t.ae++ [47]++v).drop 2=v:=by rw [List.drop_append_of_le_length (by simp [hn])];rw [List.drop_of_length_le (by simp [hn])];rfl
  exact this
theorem jP {t:Ad} {r:AE} (hg:A0 t=true) (h:Be t r=true):Cq t (AR t r)=true:=by unfold Cq;rw [Tt hg h,h];unfold KK;simp
theorem Fy {t:Ad} {w:Ac} (h:Cq t w=true):Be t (B6 w)=true∧w=AR t (B6 w):=by unfold Cq KK at h;simp only [Ae,beq_iff_eq]at h;obtain⟨h1,h2,h3,h4⟩:=h;refine⟨h1, ?_⟩;cases w;cases hq:AR t (B6 _);rename_i a b c d e f;rw [hq]at h2 h3 h4;simp only at h2 h3 h4;rw [h2,h3,h4]
def It (t:Ad) (a:Bb):List Ac:=
 if a.ak=1 then [⟨(AR t a.bz).af,(AR t a.bz).bb,false⟩]else
 if a.ak=2 then [⟨(AR t a.bq).af, [],true⟩]else [⟨(AR t a.bq).af,(AR t a.bz).bb,false⟩]
def GU (t:Ad) (a:Bb) (x:Au):List Ac:=
 (if E7 t a x≠ []∧E7 t a x≠Eb t a x∧x.aq≥1 then [⟨E7 t a x, [],true⟩]else [])++(if Eb t a x≠ []∧x.aq≥2 then [⟨Eb t a x, [],false⟩]else [])
def D9 (t:Ad) (a:Bb):List Ac:=It t a++t.ah.flatMap (GU t a)
def QI (t:Ad) (a:Bb) (st st':List Ac):Prop:=
 ∀y,y∈st'↔y.bh=false∧(y∈D9 t a∨y∈st∧ ∀w∈D9 t a,w.af≠y.af)
def Yr (t:Ad) (a:Bb) (st:List Ac):Prop:=
 (a.ak=1→ ∀w∈st,w.af≠(AR t a.bz).af)∧(a.ak≠1→AR t a.bq∈st)
theorem GP {t:Ad} (h:A0 t=true):Dl t:=by
 have hn:=(Mn (La h)).1;have h0:=h;unfold A0 at h;simp only [Ae,decide_eq_true_eq]at h;have hl:=Ca.1 h.1.1.2.2;have hc:=h.1.1.2.1;refine⟨by omega,by omega,fun c hm=> ?_,by omega,fun x hx=> ?_⟩
 ·obtain⟨i,hi,rfl⟩:=List.mem_iff_getElem.1 hm;unfold Ll at hc;have:=AK.1 hc i (List.mem_range.2 hi);unfold Ou at this;rw [List.getElem?_eq_getElem hi]at this;simp only [Option.getD_some,Ae]at this;have:=(Mn this.1).1;omega
 ·have:=(Mn (EA h0 hx).1).1;omega
structure Lw (l:List Af):Prop where
 len:l.length≤10
 each: ∀s∈l,s.length≤10
theorem Lw.small {l:List Af} (h:Lw l):Small l:=⟨by have:=h.len;omega,by
 have h1:=rR h.each;have h2:=h.len;have h3:10*l.length≤100:=by omega
 omega⟩
theorem IT {t:Ad} {r:AE} (hg:A0 t=true) (h:Be t r=true):Lw r.ay∧2≤r.ay.length:=by
 have JO:=Jw hg;have h4:t.ar.length≤4:=by have:=hg;unfold A0 at this;simp only [Ae,decide_eq_true_eq]at this;have:=Ca.1 this.1.1.2.2;omega
 unfold Be at h;rw [Ae,beq_iff_eq]at h;exact⟨⟨by omega,fun s hs=>by have:=rS (AK.1 h.2 s hs);omega⟩,by omega⟩
theorem WU {k v:Af} (h1:An k=true) (h2:Gl v=true):CU ⟨k,v,false⟩=true:=by unfold CU Iq;rw [h1,h2];rfl
theorem bM {t:Ad} {r:AE} (hg:A0 t=true) (h:Be t r=true):Lz t r:=⟨by have h1:=h;unfold Be at h1;rw [Ae,beq_iff_eq]at h1;omega,(IT hg h).1.small⟩
theorem Kr {t:Ad} {l:List Ac} {r:AE} (h:r∈rows t l):Be t r=true:=by unfold rows at h;obtain⟨w,hw,rfl⟩:=List.mem_map.1 h;exact(Fy (List.mem_filter.1 hw).2).1
theorem pQ {t:Ad} {x:Au} {r:AE} (hg:A0 t=true) (hx:x∈t.ah) (hr:Be t r=true):IS t x r=some (Bv t x.ae x.bj r)∧CU ⟨Bv t x.ae x.bj r, [],false⟩=true:=by have hS:=GP hg;exact⟨WN hS.name (hS.idx x hx) (dB hg hx) (bM hg hr),WU (Wz hg (EA hg hx).1 hr) (by decide)⟩
theorem Ks {w:Ac} (h:CU w=true):FU w:=⟨by have:=zyw h;omega,by have:=cJ h;omega⟩
theorem LA [Inhabited B7] {c:Ap} {k:Int} (l:List Af) (hl:l≠ []) (h:A1 c k) (hk:k≤4611686018427387000):Bf (Ii c l) fun p=>p.1∈l∧A1 p.2 (k+2):=by unfold Ii;have IE:0<l.length:=List.length_pos_iff.2 hl;refine(Dy l.length h hk).bind fun p ⟨hp,hc⟩=> ?_;exact Bf.bind (P:=fun y=>y∈l) (.getI hp.1 (hp.2.1 (by omega)) fun x hx=>hx) fun y hy=> .ret ⟨hy,hc⟩
def IJ:List Af:= [[105], [106], [109]]
structure zIf (w:Int) (x:Au):Prop where
 c1:1≤x.bj
 c2:x.bj≤w
 s0:0≤x.aq
 s3:x.aq≤3
structure TI (w:Int) (q:Nat) (l:List Au):Prop where
 x: ∀x∈l,zIf w x
 nm: ∀x∈l,x.ae∈IJ.take q
 up:l.Pairwise fun a b=>Op.bytesLess a.ae b.ae=true
 len:l.length≤q
theorem zHU: ∀{q:Nat},q<3→ ∀a∈IJ.take q,Op.bytesLess a ((IJ[q]?).getD [])=true:=by
 intro q hq;have:q=0∨q=1∨q=2:=by omega
 rcases this with rfl|rfl|rfl<;>decide
theorem yY {q:Nat} {a:Af} (h:a∈IJ.take q):a∈IJ.take (q+1):=by rw [List.take_add_one];exact Ai.2 (.inl h)
theorem TI.add {w:Int} {q:Nat} {l:List Au} {x:Au} (h:TI w q l) (hq:q<3) (hx:zIf w x) (hn:x.ae=(IJ[q]?).getD []):TI w (q+1) (l++ [x]):=by
 refine⟨fun y hy=> ?_,fun y hy=> ?_, ?_, ?_⟩
 ·rcases Ai.1 hy with hy|hy
  ·exact h.x y hy
  ·rw [List.mem_singleton.1 hy];exact hx
 ·rcases Ai.1 hy with hy|hy
  ·exact yY (h.nm y hy)
  ·rw [List.mem_singleton.1 hy,hn,List.take_add_one];refine Ai.2 (.inr ?_);have:q<IJ.length:=hq;rw [List.getElem?_eq_getElem this];simp
 ·refine List.pairwise_append.2 ⟨h.up,List.pairwise_singleton _ _,fun a ha b hb=> ?_⟩;rw [List.mem_singleton.1 hb,hn];exact zHU hq _ (h.nm a ha)
 ·have:=h.len;rw [Ar,AH];omega
theorem TI.more {w:Int} {q:Nat} {l:List Au} (h:TI w q l):TI w (q+1) l:=⟨h.x,fun y hy=>yY (h.nm y hy),h.up,by have:=h.len;omega⟩
theorem zBO {nm:Af} {cs:List Af} {l:List Au} (hn:nm∈([[116], [117]]:List Af)) (hc:Ll cs=true) (h2:2≤cs.length) (h4:cs.length≤4) (h:TI ((cs.length:Int)-1) 3 l):A0 ⟨nm,cs,l⟩=true:=by
 unfold A0;have e1:CH nm 1=true:=by simp only [Ag,List.not_mem_nil,or_false]at hn;rcases hn with rfl|rfl<;>decide
 have hl:=h.len;simp only [e1,hc,Bool.true_and,Ae,decide_eq_true_eq];refine⟨⟨Ca.2 ⟨by omega,by omega⟩,by omega⟩,AK.2 fun i hi=> ?_⟩;have hi:=List.mem_range.1 hi;unfold HT;have ex:(l[i]?).getD ⟨[],0,0⟩=l[i]:=by rw [List.getElem?_eq_getElem hi];rfl
 dsimp only;rw [ex];have hm:=List.getElem_mem hi;have hx:=h.x _ hm;have Eg:CH l[i].ae 1=true:=by have:=h.nm _ hm;have e:IJ.take 3=IJ:=rfl;rw [e]at this;unfold IJ at this;simp only [Ag,List.not_mem_nil,or_false]at this;rcases this with e|e|e<;>rw [e]<;>decide
 rw [Eg,Ca.2 ⟨hx.c1,hx.c2⟩,Ca.2 ⟨hx.s0,hx.s3⟩];simp only [Bool.true_and,Bool.or_eq_true,beq_iff_eq];by_cases h0:i=0
 ·exact .inl h0
 ·refine .inr ?_;have hp:i-1<l.length:=by omega
  have ep:(l[i-1]?).getD ⟨[],0,0⟩=l[i-1]:=by rw [List.getElem?_eq_getElem hp];rfl
  rw [ep];exact(List.pairwise_iff_getElem.1 h.up) (i-1) i hp hi (by omega)
def Rn:List Af:= [[107], [97], [98], [99,99]]
theorem cQ {p:Int} (h0:0≤p) (h3:p<3):Ll (Bn Rn 0 (IntKind.i64.wrap (2+p)))=true∧(((Bn Rn 0 (IntKind.i64.wrap (2+p))).length:Nat):Int)=2+p:=by
 rw [Ba (by omega) (by omega)];have:p=0∨p=1∨p=2:=by omega
 rcases this with rfl|rfl|rfl<;>exact⟨by decide,by decide⟩
theorem pH [Inhabited B7] {v2:Int × Ap} {q:Nat} {l:List Au} {y:Af} {a:List Int} {b e k:Int} {t:Bool} (h0:0≤v2.1) (h3:v2.1<3) (hq:q<3) (hy:y=(IJ[q]?).getD []) (hl:TI (1+v2.1) q l) (hc:A1 ⟨a,b,e⟩ k) (hk:k≤4611686018427380000):
  Bf (NH v2 q l y a b e t) fun o=> ∃(c:Ap) (l':List Au),o= .inl (((q+1:Nat):Int),c.ax,c.bw,c.a7,l')∧TI (1+v2.1) (q+1) l'∧A1 c (k+4):=by
 unfold NH;have hw:=(cQ h0 h3).2;unfold Rn at hw;have w1:IntKind.i64.wrap ((q:Int)+1)=((q+1:Nat):Int):=by rw [Ba (by omega) (by omega)];omega
 refine .ite (fun _=> ?_) fun _=> .ret ⟨⟨a,b,e⟩,l,by rw [w1],hl.more,hc.up (by omega)⟩;rw [hw,Ba (n:=2+v2.1-1) (by omega) (by omega)];refine(Dy _ hc (by omega)).bind fun p ⟨hp,BY⟩=>(Dy 4 BY (by omega)).bind fun r ⟨hr,JO⟩=> ?_;have p2:=hp.2.1 (by omega);have r2:=hr.2.1 (by omega);have hlen:=hl.len;refine .req (by simp;omega) (.ret ⟨r.2,_,by rw [w1],hl.add hq ⟨?_, ?_,hr.1,by dsimp only;omega⟩ hy,JO.up (by omega)⟩)
 ·dsimp only;rw [Ba (by omega) (by omega)];omega
 ·dsimp only;rw [Ba (by omega) (by omega)];omega
theorem WR [Inhabited B7] {c:Ap} {k:Int} (h:A1 c k) (hk:k≤4611686018427370000):Bf (Jo c) fun p=>A0 p.1=true∧A1 p.2 (k+40):=by
 unfold Jo;refine(LA _ (by simp) h (by omega)).bind fun n ⟨hn,hc⟩=>(Dy 3 hc (by omega)).bind fun p ⟨hp,hd⟩=> ?_;have p2:=hp.2.1 (by omega);obtain⟨GL,F5⟩:=cQ hp.1 p2;unfold Rn at GL F5;have w1:IntKind.i64.wrap (2+p.1)=2+p.1:=Ba (by omega) (by omega);refine .req ⟨by omega,by rw [w1];omega,by rw [w1];simp;omega⟩ (.req (by rw [F5];simp;omega) ?_);refine K7 (fun m s=> ∃q:Nat,s.1=(q:Int)∧q+m=3∧TI (1+p.1) q s.2.2.2.2∧A1 ⟨s.2.1,s.2.2.1,s.2.2.2.1⟩ (k+4+8*q)) (fun m s hI=> ?_) (n:=3) ⟨0,rfl,rfl,⟨by simp,by simp, .nil,by simp⟩,by simpa using hd.up (by omega)⟩;obtain⟨q,e1,e2,hT,ho⟩:=hI;obtain⟨s1,a,b,e,l⟩:=s;dsimp only at e1 hT ho ⊢;subst e1;unfold lX;have ec:(([([105]:Ab),([106]:Ab),([109]:Ab)]:List (Ab)).length:Int)=3:=rfl;rw [ec];refine .ite (fun Ak=> ?_) fun EG=> ?_
 ·simp only [decide_eq_true_eq]at Ak;have hq:q<3:=by omega
  have eg:getI [([105]:Ab),([106]:Ab),([109]:Ab)] (q:Int)=some ((IJ[q]?).getD []):=by
   have:q=0∨q=1∨q=2:=by omega
   rcases this with rfl|rfl|rfl<;>rfl
  rw [eg,Aa];refine(Hc 3 ho (by omega)).bind fun x hx=> .ite (fun _=> ?_) fun _=> .ite (fun _=> ?_) fun _=> ?_
  ·exact(pH hp.1 p2 hq rfl hT hx (by omega)).mono fun o ho=>by obtain⟨c',l',rfl,ht,MT⟩:=ho;exact⟨m-1,by omega,q+1,rfl,by omega,ht,MT.up (by omega)⟩
  ·refine(Hc 8 hx (by omega)).bind fun z hz=> ?_;exact(pH hp.1 p2 hq rfl hT hz (by omega)).mono fun o ho=>by obtain⟨c',l',rfl,ht,MT⟩:=ho;exact⟨m-1,by omega,q+1,rfl,by omega,ht,MT.up (by omega)⟩
  ·exact(pH hp.1 p2 hq rfl hT hx (by omega)).mono fun o ho=>by obtain⟨c',l',rfl,ht,MT⟩:=ho;exact⟨m-1,by omega,q+1,rfl,by omega,ht,MT.up (by omega)⟩
 ·simp only [decide_eq_false_iff_not]at EG;have:q=3:=by omega
  subst this;refine .ret (.ret ⟨zBO hn GL (by omega) (by omega) ?_,ho.up (by omega)⟩);rw [F5,show 2+p.1-1=1+p.1 by omega];exact hT
theorem Xu [Inhabited B7] {c:Ap} {k:Int} {t:Ad} (hg:A0 t=true) (h:A1 c k) (hk:k≤4611686018427380000):Bf (NK c t) fun p=>Be t p.1=true∧A1 p.2 (k+20):=by
 have JO:=Jw hg;have h4:t.ar.length≤4:=by have:=hg;unfold A0 at this;simp only [Ae,decide_eq_true_eq]at this;have:=Ca.1 this.1.1.2.2;omega
 unfold NK;refine(LA _ (by simp) h (by omega)).bind fun n ⟨hn,hc⟩=> ?_;have hf0:field n.1=true:=by simp only [Ag,List.not_mem_nil,or_false]at hn;rcases hn with e|e|e|e|e|e<;>rw [e]<;>decide
 refine K7 (fun m s=>s.2.2.2.length+m=t.ar.length∧(∀x∈s.2.2.2,field x=true)∧A1 ⟨s.1,s.2.1,s.2.2.1⟩ (k+2+4*s.2.2.2.length)) (fun m s hI=> ?_) (n:=t.ar.length-1) ⟨by simp;omega,by simpa using hf0,hc.up (by simp;omega)⟩;obtain⟨a,b,e,l⟩:=s;obtain⟨i1,i2,i3⟩:=hI;dsimp only at i1 i2 i3 ⊢;unfold ziJ;refine .ite (fun Ak=> ?_) fun EG=> ?_
 ·simp only [decide_eq_true_eq]at Ak;refine(LA _ (by simp) i3 (by omega)).bind fun x ⟨hx,hd⟩=> .req (by simp;omega) (.ret ⟨m-1,by omega,by simp;omega,fun z hz=> ?_, ?_⟩)
  ·dsimp only at hz;rcases Ai.1 hz with hz|hz
   ·exact i2 z hz
   ·rw [List.mem_singleton.1 hz];simp only [Ag,List.not_mem_nil,or_false]at hx;rcases hx with e|e|e|e|e<;>rw [e]<;>decide
  ·refine hd.up ?_;dsimp only;rw [Ar,AH];omega
 ·simp only [decide_eq_false_iff_not]at EG;refine .ret (.ret ⟨?_,i3.up (by omega)⟩);unfold Be;rw [Ae,beq_iff_eq];exact⟨by dsimp only;omega,AK.2 i2⟩
theorem Lw.set {l:List Af} {i:Nat} {s:Af} (h:Lw l) (hs:s.length≤10):Lw (l.set i s):=⟨by rw [List.length_set];exact h.len,fun x hx=>by
 rcases List.mem_or_eq_of_mem_set hx with hx|rfl
 ·exact h.each x hx
 ·exact hs⟩
theorem Ec.mono {n m:Nat} {l:List Ac} (h:Ec n l) (hm:n≤m):Ec m l:=⟨h.cf,by have:=h.len;omega,h.br⟩
theorem zId [Inhabited B7] {c:Ap} {k:Int} (h:A1 c k) (hk:k≤4611686018427387000):Bf (Zk c) fun p=>An p.1=true∧A1 p.2 (k+2):=by unfold Zk;refine(LA _ (by simp) h (by omega)).bind fun p ⟨hp,hc⟩=> .ret ⟨?_,hc⟩;simp only [Ag,List.not_mem_nil,or_false]at hp;dsimp only;rcases hp with e|e|e|e|e|e|e|e<;>rw [e]<;>decide
theorem zIm [Inhabited B7] {c:Ap} {k:Int} (h:A1 c k) (hk:k≤4611686018427387000):Bf (Zf c) fun p=>Gl p.1=true∧A1 p.2 (k+2):=by unfold Zf;refine(LA _ (by simp) h (by omega)).bind fun p ⟨hp,hc⟩=> .ret ⟨?_,hc⟩;simp only [Ag,List.not_mem_nil,or_false]at hp;dsimp only;rcases hp with e|e|e|e|e|e|e<;>rw [e]<;>decide
def Iv (t:Ad) (l:List Ac):Nat:=(l.filter (Cq t)).length
theorem sO {t:Ad} {w:Ac}: ∀l:List Ac,Iv t (Bk wk w l)≤Iv t l+(if Cq t w=true then 1 else 0)
 | []=>by unfold Iv;rw [Bk,List.filter_cons];split<;>simp
 |z::l=>by
  have ih:=sO (t:=t) (w:=w) l;unfold Iv at ih ⊢;rw [Bk];split
  ·rw [List.filter_cons];split<;>simp
  ·split
   ·rw [List.filter_cons,List.filter_cons];split<;>split<;>(try simp only [Ao])<;>omega
   ·rw [List.filter_cons,List.filter_cons];split<;>(try simp only [Ao])<;>omega
theorem zuY {t:Ad} {x:Au} {r:AE} (hg:A0 t=true) (hx:x∈t.ah) (hr:Be t r=true) (l:List Ac):Iv t (Bk wk ⟨Bv t x.ae x.bj r, [],false⟩ l)≤Iv t l:=by
 have h:=sO (t:=t) (w:=⟨Bv t x.ae x.bj r, [],false⟩) l;rw [if_neg (fun BF=> ?_)]at h
 ·omega
 ·obtain⟨h1,h2⟩:=Fy BF;exact Wr hg (EA hg hx).1 h1 hr (congrArg Ac.af h2).symm
structure Dh (n:Nat) (l:List Ac):Prop where
 ok:Ec n l
 live: ∀w∈l,w.bh=false
theorem Dh.len {n:Nat} {l:List Ac} (h:Dh n l):l.length≤n:=h.ok.len
theorem Dh.cf {n:Nat} {l:List Ac} (h:Dh n l):Dc l:=h.ok.cf
theorem Dh.br {n:Nat} {l:List Ac} (h:Dh n l): ∀w∈l,CU w=true:=h.ok.br
theorem Dh.mono {n m:Nat} {l:List Ac} (h:Dh n l) (hm:n≤m):Dh m l:=⟨h.ok.mono hm,h.live⟩
theorem pM {w y:Ac}: ∀{l:List Ac},y∈Bk wk w l→y=w∨y∈l
 | [],h=> .inl (by simpa [Bk]using h)
 |z::l,h=>by
  rw [Bk]at h;split at h
  ·rcases Ag.1 h with h|h
   ·exact .inl h
   ·exact .inr h
  ·split at h
   ·rcases Ag.1 h with h|h
    ·exact .inl h
    ·exact .inr (by simp [h])
   ·rcases Ag.1 h with h|h
    ·exact .inr (by simp [h])
    ·rcases pM h with h|h
     ·exact .inl h
     ·exact .inr (by simp [h])
theorem TH {n:Nat} {ws:List Ac} {w:Ac} (h:Dh n ws) (hw:CU w=true) (hl:w.bh=false):Dh (n+1) (Bk wk w ws):=⟨Le h.ok hw,fun y hy=>by
 rcases pM hy with rfl|hy
 ·exact hl
 ·exact h.live y hy⟩
theorem zzl [Inhabited B7] {t:Ad} {c:Ap} {k:Int} {n m:Nat} {l:List Ac} (hl:Dh n l) (hm:Iv t l≤m) (hn:n≤1000) (h:A1 c k) (hk:k≤4611686018427380000):Bf (lZ c.ax c.bw c.a7 l) fun p=>(Dh (n+1) p.1∧Iv t p.1≤m+1)∧A1 p.2 (k+6):=by unfold lZ;have hlen:=hl.len;refine(Hc 6 (c:=⟨c.ax,c.bw,c.a7⟩) h (by omega)).bind fun p hp=> .ite (fun _=> ?_) fun _=> .ret ⟨⟨hl.mono (by omega),by dsimp only;omega⟩,hp.up (by omega)⟩;refine(zId hp (by omega)).bind fun q ⟨hq,hc⟩=>(zIm hc (by omega)).bind fun r ⟨hr,hd⟩=> ?_;rw [Mz (by omega) hl.cf,Aa];refine .ret ⟨⟨TH hl (WU hq hr) rfl, ?_⟩,hd.up (by omega)⟩;have:=sO (t:=t) (w:=⟨q.1,r.1,false⟩) l;split at this<;>(dsimp only;omega)
theorem zy7 [Inhabited B7] {t:Ad} {q:Nat} {x:Au} {c:Ap} {k:Int} {n m:Nat} {l:List Ac} (hg:A0 t=true) (hx:x∈t.ah) (hq:q≤3) (hl:Dh n l) (hm:Iv t l≤m) (hn:n≤1000) (h:A1 c k) (hk:k≤4611686018427370000):
  Bf (lW t q x c.ax c.bw c.a7 l) fun o=> ∃(c':Ap) (l':List Ac),o= .inl (((q+1:Nat):Int),c'.ax,c'.bw,c'.a7,l')∧Dh (n+1) l'∧Iv t l'≤m∧A1 c' (k+30):=by
 unfold lW;have hlen:=hl.len;have w1:IntKind.i64.wrap ((q:Int)+1)=((q+1:Nat):Int):=by rw [Ba (by omega) (by omega)];omega
 refine(Hc 5 (c:=⟨c.ax,c.bw,c.a7⟩) h (by omega)).bind fun p hp=> .ite (fun _=> ?_) fun _=> .ret ⟨p.2,l,by rw [w1],hl.mono (by omega),hm,hp.up (by omega)⟩;refine(Xu hg hp (by omega)).bind fun r ⟨hr,hc⟩=> ?_;obtain⟨e1,e2⟩:=pQ hg hx hr;rw [e1,Aa,Mz (by omega) hl.cf,Aa];exact .ret ⟨r.2,_,by rw [w1],TH hl e2 rfl,Nat.le_trans (zuY hg hx hr l) hm,hc.up (by omega)⟩
def Yw (q:Nat):Nat:=4+5*q
theorem zB1 {t:Ad} (h:A0 t=true):t.ah.length≤3:=by unfold A0 at h;simp only [Ae,decide_eq_true_eq]at h;omega
theorem zy3 [Inhabited B7] {t:Ad} {c:Ap} {k:Int} {l:List Ac} (hg:A0 t=true) (hl:Dh 4 l) (h:A1 c k) (hk:k≤4611686018427360000):Bf (lY t c.ax c.bw c.a7 l) fun p=>(Dh 20 p.1∧Iv t p.1≤5)∧A1 p.2 (k+700):=by
 unfold lY;have hS:=GP hg;have h3:=zB1 hg;refine K7 (fun m s=> ∃q:Nat,s.1=(q:Int)∧q+m=t.ah.length∧Dh (Yw q) s.2.2.2.2∧Iv t s.2.2.2.2≤4∧A1 ⟨s.2.1,s.2.2.1,s.2.2.2.1⟩ (k+200*q)) (fun m s hI=> ?_) (n:=t.ah.length) (by exact⟨0,rfl,by omega,hl,Nat.le_trans (List.length_filter_le _ _) hl.len,by simpa using h⟩);obtain⟨q,e1,e2,hT,hm,ho⟩:=hI;obtain⟨s1,a,b,e,l⟩:=s;dsimp only at e1 hT hm ho ⊢;subst e1;have hb:Yw q=4+5*q:=rfl;have hlen:=hT.len;unfold zhO;refine .ite (fun Ak=> ?_) fun EG=> ?_
 ·simp only [decide_eq_true_eq]at Ak;have hq:q<t.ah.length:=by omega
  rw [AL hq,Aa,Qp hS.name (by omega) (fun w hw=>Ks (hT.br w hw)),Aa];have hx:=List.getElem_mem hq;have hR:(rows t l).length≤4:=by unfold rows;rw [List.length_map];exact hm
  generalize DP:rows t l=R at hR;have FV: ∀r∈R,Be t r=true:=fun r hr=>Kr (l:=l) (by rw [DP];exact hr);refine K7 (fun j s=> ∃i:Nat,s.1=(i:Int)∧i+j=R.length∧Dh (Yw q+i) s.2.2.2.2∧Iv t s.2.2.2.2≤4∧A1 ⟨s.2.1,s.2.2.1,s.2.2.2.1⟩ (k+200*q+2*i)) (fun j s hJ=> ?_) (n:=R.length) (by exact⟨0,rfl,by omega,hT,hm,by simpa using ho⟩);obtain⟨i,f1,f2,gT,gm,go⟩:=hJ;obtain⟨s1,a,b,e,l'⟩:=s;dsimp only at f1 gT gm go ⊢;subst f1;have glen:=gT.len;unfold zhL;refine .ite (fun Hy=> ?_) fun fS=> ?_
  ·simp only [decide_eq_true_eq]at Hy;have hi:i<R.length:=by omega
   have w1:IntKind.i64.wrap ((i:Int)+1)=((i+1:Nat):Int):=by rw [Ba (by omega) (by omega)];omega
   obtain⟨n1,n2⟩:=pQ hg hx (FV _ (List.getElem_mem hi));rw [AL hi,Aa];refine(Hc 5 go (by omega)).bind fun p hp=> .ite (fun _=> ?_) fun _=> .ret ⟨j-1,by omega,i+1,w1,by omega,gT.mono (by omega),gm,hp.up (by omega)⟩;rw [n1,Aa,Mz (by omega) gT.cf,Aa];exact .ret ⟨j-1,by omega,i+1,w1,by omega,(TH gT n2 rfl).mono (by omega),Nat.le_trans (zuY hg hx (FV _ (List.getElem_mem hi)) _) gm,hp.up (by omega)⟩
  ·simp only [decide_eq_false_iff_not]at fS;refine .ret ((zy7 (c:=⟨a,b,e⟩) hg hx (by omega) gT gm (by omega) go (by omega)).mono fun o ho2=> ?_);obtain⟨c',l2,rfl,z1,zm,z2⟩:=ho2;exact⟨m-1,by omega,q+1,rfl,by omega,z1.mono (by have:Yw (q+1)=4+5*(q+1):=rfl;omega),zm,z2.up (by omega)⟩
 ·refine .ret ((zzl (t:=t) (c:=⟨a,b,e⟩) hT hm (by omega) ho (by omega)).mono fun p hp=>⟨⟨hp.1.1.mono (by omega),hp.1.2⟩,hp.2.up (by omega)⟩)
theorem zFG [Inhabited B7] {t:Ad} {c:Ap} {k:Int} (hg:A0 t=true) (h:A1 c k) (hk:k≤4611686018427350000):Bf (Y4 c t) fun p=>(Dh 20 p.1∧Iv t p.1≤5)∧A1 p.2 (k+900):=by
 unfold Y4;have hS:=GP hg;refine(Dy 5 h (by omega)).bind fun p ⟨hp,hc⟩=> ?_;have p2:=hp.2.1 (by omega);obtain⟨m,hm⟩:=Int.eq_ofNat_of_zero_le hp.1;have hm4:m≤4:=by omega
 refine K7 (fun j s=>j≤4∧s.2.1=(j:Int)∧Dh (4-j) s.1∧A1 ⟨s.2.2.1,s.2.2.2.1,s.2.2.2.2⟩ (k+2+30*(4-j))) (fun j s hI=> ?_) (n:=m) (by exact⟨hm4,hm,⟨⟨.nil,by simp,by simp⟩,by simp⟩,hc.up (by omega)⟩);obtain⟨l,s1,a,b,e⟩:=s;obtain⟨i0,i1,i2,i3⟩:=hI;dsimp only at i1 i2 i3 ⊢;subst i1;have hlen:=i2.len;unfold zhM;refine .ite (fun Ak=> ?_) fun EG=> ?_
 ·simp only [decide_eq_true_eq,gt_iff_lt]at Ak;refine(Xu hg i3 (by omega)).bind fun r ⟨hr,hd⟩=> ?_;obtain⟨hs,h2⟩:=IT hg hr;have A3:r.1.ay≠ []:=fun e=>by rw [e]at h2;simp at h2
  have hw:=N8 hg hr;rw [Lj hS.name hs.small A3,Aa,Mz (by omega) i2.cf,Aa];refine .ret ⟨j-1,by omega,by omega, ?_,(TH i2 (w:=AR t r.1) (WU hw.1 hw.2) rfl).mono (by omega),hd.up (by omega)⟩;dsimp only;rw [Ba (by omega) (by omega)];omega
 ·simp only [decide_eq_false_iff_not,gt_iff_lt]at EG;exact .ret ((zy3 (c:=⟨a,b,e⟩) hg (i2.mono (by omega)) i3 (by omega)).mono fun p hp=>⟨hp.1,hp.2.up (by omega)⟩)
structure MP (l:List Ac):Prop where
 len:l.length≤100
 each: ∀w∈l,FU w
theorem MP.small {l:List Ac} (h:MP l):Lr l:=⟨by have:=h.len;omega,fun w hw=>by have:=h.each w hw;unfold FU at this;omega⟩
theorem zsS (w:Ac): ∀(l:List Ac),(Bk wk w l).length≤l.length+1
 | []=>by simp [Bk]
 |z::l=>by
  rw [Bk];split
  ·simp
  ·split
   ·simp
   ·have:=zsS w l;simp only [Ao];omega
theorem MP.put {l:List Ac} {w:Ac} (h:MP l) (hl:l.length≤99) (hw:FU w):MP (Bk wk w l):=⟨by have:=zsS w l;omega,fun y hy=>by
 rcases pM hy with rfl|hy
 ·exact hw
 ·exact h.each y hy⟩
theorem Dh.mc {n:Nat} {l:List Ac} (h:Dh n l) (hn:n≤100):MP l:=⟨by have:=h.len;omega,fun w hw=>Ks (h.br w hw)⟩
theorem Ec.mc {n:Nat} {l:List Ac} (h:Ec n l) (hn:n≤100):MP l:=⟨by have:=h.len;omega,fun w hw=>Ks (h.br w hw)⟩
structure KF (a:Bb):Prop where
 old:Lw a.bq.ay
 new:Lw a.bz.ay
theorem KF.small {a:Bb} (h:KF a):Fk a:=⟨h.old.small,h.new.small⟩
theorem Ju:Lw []:=⟨by simp,by simp⟩
theorem rI [Inhabited B7] {t:Ad} {c:Ap} {k:Int} {v:List Af} (hg:A0 t=true) (hv:Lw v) (Dw:2≤v.length) (h:A1 c k) (hk:k≤4611686018427340000):Bf (Y7 t c.ax c.bw c.a7 v) fun p=>KF p.1∧A1 p.2 (k+30):=by
 unfold Y7;refine(Dy 3 (c:=⟨c.ax,c.bw,c.a7⟩) h (by omega)).bind fun p ⟨_,hc⟩=> .ite (fun _=> ?_) fun _=> .ite (fun _=> .ret ⟨⟨hv,Ju⟩,hc.up (by omega)⟩) fun _=> ?_
 ·exact(Xu hg hc (by omega)).bind fun r ⟨hr,hd⟩=> .ret ⟨⟨Ju,(IT hg hr).1⟩,hd.up (by omega)⟩
 ·refine(Xu hg hc (by omega)).bind fun r ⟨hr,hd⟩=> ?_;obtain⟨hs,h2⟩:=IT hg hr;obtain⟨y,ey,hy,_⟩:=IX (xs:=v) (i:=0) (by omega) (by omega);rw [ey,Aa];refine Bf.bind (P:=fun _=>True) (.getI (by omega) (by omega) fun _ _=>trivial) fun _ _=> .ret ⟨⟨hv,hs.set (hv.each y hy)⟩,hd.up (by omega)⟩
theorem zIW [Inhabited B7] {t:Ad} {l:List Ac} {c:Ap} {k:Int} (hg:A0 t=true) (hl:MP l) (h:A1 c k) (hk:k≤4611686018427330000):Bf (Zd c t l) fun p=>KF p.1∧A1 p.2 (k+100):=by
 unfold Zd;have hS:=GP hg;have hlen:=hl.len;rw [Qp hS.name (by omega) hl.each,Aa];have hR:=rows_len t l;refine(Xu hg h (by omega)).bind fun r ⟨hr,hc⟩=> .ite (fun IE=> ?_) fun _=> ?_
 ·simp only [decide_eq_true_eq]at IE;refine(Hc 4 hc (by omega)).bind fun u hu=> ?_;unfold Zc;refine .ite (fun _=> ?_) fun _=> ?_
  ·refine(Dy _ (c:=⟨u.2.ax,u.2.bw,u.2.a7⟩) hu (by omega)).bind fun i ⟨hi,hd⟩=> ?_;obtain⟨y,ey,hy,_⟩:=IX (xs:=rows t l) hi.1 (hi.2.1 (by omega));rw [ey,Aa];obtain⟨hs,h2⟩:=IT hg (Kr hy);exact(rI hg hs h2 hd (by omega)).mono fun p hp=>⟨hp.1,hp.2.up (by omega)⟩
  ·obtain⟨hs,h2⟩:=IT hg hr;exact(rI hg hs h2 hu (by omega)).mono fun p hp=>⟨hp.1,hp.2.up (by omega)⟩
 ·unfold Zc;refine .ite (fun hh=>by cases hh) fun _=> ?_;obtain⟨hs,h2⟩:=IT hg hr;exact(rI hg hs h2 hc (by omega)).mono fun p hp=>⟨hp.1,hp.2.up (by omega)⟩
end Go.Proofs.YtbmbkgalkfmjdaaGreatDoor
end
section
namespace Go.Proofs.YtbmbkgalkfmjdaaGreatDoor
set_option maxRecDepth 100000
@[irreducible] def Gk (x:Nat):Nat:=(1442695040888963407+6364136223846793005*x) % 18446744073709551616
def Gj:Nat→Nat→Nat
 |0,x=>x
 |n+1,x=>Gj n (Gk x)
theorem wK (x:Nat):Gj 0 x=x:=rfl
theorem sV (n x:Nat):Gj (n+1) x=Gj n (Gk x):=rfl
theorem Xe (m n x:Nat):Gj (m+n) x=Gj n (Gj m x):=by
 induction m generalizing x with
 |zero=>rw [Nat.zero_add,wK]
 |succ m ih=>rw [Nat.add_right_comm,sV,sV,ih]
theorem zGr (x:Nat):Gk x<18446744073709551616:=by unfold Gk;exact Nat.mod_lt _ (by decide)
def PC (A C n:Nat):Prop:= ∀x,Gj n x=(x*A+C) % 18446744073709551616
theorem sS {A C A' C' m n:Nat} (h:PC A C m) (h':PC A' C' n):PC (A*A' % 18446744073709551616) ((C*A'+C') % 18446744073709551616) (m+n):=fun x=>by
 rw [Xe,h x,h' _];have e: ∀y:Nat,(y % 18446744073709551616*A'+C') % 18446744073709551616=(y*A'+C') % 18446744073709551616:=fun y=>by rw [Nat.add_mod,Nat.mod_mul_mod,←Nat.add_mod]
 rw [e,Nat.add_mul,Nat.mul_assoc,Nat.add_assoc];rw [Nat.add_mod (x*(A*A')) _,Nat.add_mod (x*(A*A' % 18446744073709551616)) _,Nat.mod_mod,Nat.mul_mod_mod]
def YA:Nat→Nat × Nat→Nat × Nat
 |0,p=>p
 |k+1,p=>YA k (p.1*p.1 % 18446744073709551616,(p.2*p.1+p.2) % 18446744073709551616)
theorem yA: ∀(k n:Nat) (p:Nat × Nat),PC p.1 p.2 n→PC (YA k p).1 (YA k p).2 (n*2^k)
 |0,n,p,h=>by rw [Nat.pow_zero,Nat.mul_one];exact h
 |k+1,n,p,h=>by have h2:=yA k (n+n) (p.1*p.1 % 18446744073709551616,(p.2*p.1+p.2) % 18446744073709551616) (sS h h);rw [Nat.pow_succ,show n*(2^k*2)=(n+n)*2^k by rw [Nat.add_mul,Nat.mul_comm (2^k) 2,←Nat.mul_assoc,Nat.mul_comm n 2,Nat.mul_assoc,Nat.two_mul]];exact h2
def Vo:Nat:=211106232532992
def Ep (x:Nat):Nat:=x/1099511627776 % 256
theorem zGU:PC 9118381870541701121 9530672342678634496 Vo:=by
 have h1:PC 6364136223846793005 1442695040888963407 1:=fun x=>by rw [sV,wK];unfold Gk;rw [Nat.add_comm,Nat.mul_comm]
 have h3:=sS (sS h1 h1) h1;simp only [Nat.reduceMul,Nat.reduceMod,Nat.reduceAdd]at h3;have h:=yA 46 3 (793875393913628917,11166244414315200793) h3;have e:YA 46 (793875393913628917,11166244414315200793)=(9118381870541701121,9530672342678634496):=by decide
 rw [e]at h;exact h
theorem zIY (z:Nat):Ep (z % 18446744073709551616)=Ep z:=by unfold Ep;omega
theorem zIE (x y:Nat):Ep (x+9530672342678634496+281474976710656*y)=(Ep x+192) % 256:=by unfold Ep;omega
theorem zGi {x:Nat}:Ep (Gj Vo x)=(Ep x+192) % 256:=by rw [zGU x,zIY,show x*9118381870541701121+9530672342678634496=x+9530672342678634496+281474976710656*(x*32395) by omega,zIE]
theorem zKi {x:Nat} (h0:Ep x % 3=0) (h1:Ep (Gj Vo x) % 3=0) (h2:Ep (Gj Vo (Gj Vo x)) % 3=0):False:=by rw [zGi]at h1 h2;rw [zGi]at h2;have:Ep x<256:=Nat.mod_lt _ (by decide);omega
end Go.Proofs.YtbmbkgalkfmjdaaGreatDoor
end
section
namespace Go.Proofs.YtbmbkgalkfmjdaaGreatDoor
open Go.RowKit
set_option maxRecDepth 100000
theorem Bf.and {α:Type} {o:Option α} {P Q:α→Prop} (h:Bf o P) (k:Bf o Q):Bf o fun x=>P x∧Q x:=by obtain⟨x,rfl,hx⟩:=h;obtain⟨y,e,hy⟩:=k;cases e;exact⟨x,rfl,hx,hy⟩
def sd (c:Ap):Prop:=0≤c.a7∧c.a7<18446744073709551616
def HU (c:Ap):Prop:=(c.ax.length:Int)≤c.bw∧sd c
def nx (c:Ap):Ap:=⟨c.ax,c.bw+1,(Gk c.a7.toNat:Nat)⟩
theorem kQ (x:Int):IntKind.u64.wrap x=x % 18446744073709551616:=by simp [IntKind.wrap,IntKind.bits,IntKind.signed]
theorem zJT (c:Ap):sd (nx c):=by
 have:=zGr c.a7.toNat
 unfold sd nx;dsimp only;omega
theorem FB {c:Ap} (h:HU c):HU (nx c):=⟨by have:=h.1;unfold nx;dsimp only;omega,zJT c⟩
theorem zGO (a:Nat) (h:a<18446744073709551616):(BitVec.ofInt (IntKind.bits .u64) (Int.fdiv (a:Int) (2^(min ((40:Int)).toNat (IntKind.bits .u64))))&&&BitVec.ofInt (IntKind.bits .u64) 255).toNat=Ep a:=by
 have e1:(2^(min ((40:Int)).toNat (IntKind.bits .u64)):Int)=((1099511627776:Nat):Int):=by decide
 have e2:Int.fdiv (a:Int) ((1099511627776:Nat):Int)=((a/1099511627776:Nat):Int):=by rw [Int.fdiv_eq_ediv_of_nonneg _ (by omega)];rfl
 rw [e1,e2,BitVec.toNat_and];have e3:(BitVec.ofInt (IntKind.bits .u64) ((a/1099511627776:Nat):Int)).toNat=a/1099511627776:=by
  rw [BitVec.ofInt_natCast,BitVec.toNat_ofNat];have:a/1099511627776<2^64:=by omega
  exact Nat.mod_eq_of_lt this
 have e4:(BitVec.ofInt (IntKind.bits .u64) 255).toNat=255:=by decide
 rw [e3,e4];have:(255:Nat)=2^8-1:=by decide
 rw [this,Nat.and_two_pow_sub_one_eq_mod];rfl
theorem zEB [Inhabited B7] {c:Ap} {k:Int} (h:A1 c k) (hk:k≤4611686018427387904):Bf (PW c) fun p=>p.2.ax=c.ax∧p.2.bw=c.bw+1∧sd p.2∧(HU c→p.1=(Ep (Gk c.a7.toNat):Nat)∧p.2=nx c):=by
 obtain⟨hb,h0,h1⟩:=h;have w:IntKind.i64.wrap (c.bw+1)=c.bw+1:=Ba (by omega) (by omega);have XZ: ∀x:Int,0≤IntKind.u64.wrap x∧IntKind.u64.wrap x<18446744073709551616:=fun x=>by rw [kQ];exact⟨Int.emod_nonneg _ (by decide),Int.emod_lt_of_pos _ (by decide)⟩
 unfold PW;refine .ite (fun Ak=> ?_) fun Ak=> ?_
 ·simp only [decide_eq_true_eq]at Ak;refine Bf.bind (P:=fun _=>True) (.getI h0 Ak fun _ _=>trivial) fun y _=> .ite (fun _=> .ret ⟨rfl,w,XZ _,fun he=> ?_⟩) fun _=> .ret ⟨rfl,w,XZ _,fun he=> ?_⟩
  ·have:=he.1;omega
  ·have:=he.1;omega
 ·simp only [decide_eq_false_iff_not]at Ak;have UT: ∀s:Int,0≤s→s<18446744073709551616→IntKind.u64.wrap ((IntKind.u64.wrap ((IntKind.u64.wrap (s*6364136223846793005))+(IntKind.u64.wrap 0)))+1442695040888963407)=(Gk s.toNat:Nat):=fun s s0 s1=>by
   unfold Gk;simp only [kQ];omega
  refine .ite (fun hle=> ?_) fun hle=> ?_
  ·simp only [decide_eq_true_eq,w]at hle;refine .ret ⟨rfl,w,XZ _,fun he=> ?_⟩;have:=he.1;omega
  ·refine .ret ⟨rfl,w,XZ _,fun he=> ?_⟩;have hs:=UT c.a7 he.2.1 he.2.2;refine⟨?_, ?_⟩
   ·dsimp only;rw [hs,zGO _ (zGr _)];have:Ep (Gk c.a7.toNat)<256:=Nat.mod_lt _ (by decide);have e:IntKind.u64.wrap (Ep (Gk c.a7.toNat):Nat)=(Ep (Gk c.a7.toNat):Nat):=by rw [kQ];omega
    rw [e,Ba (by omega) (by omega)]
   ·unfold nx;dsimp only;rw [hs,w]
theorem Qo [Inhabited B7] {c:Ap} {k:Int} (n:Int) (hn:2≤n) (XS:n≤200) (h:A1 c k) (hk:k≤4611686018427387000):Bf (C5 c n) fun p=>p.2.ax=c.ax∧p.2.bw=c.bw+1∧sd p.2∧(HU c→p.1=(Ep (Gk c.a7.toNat):Nat) % n∧p.2=nx c):=by
 unfold C5;refine .ite (fun h1=> ?_) fun _=> ?_
 ·simp only [decide_eq_true_eq]at h1;omega
 ·refine(zEB h (by omega)).bind fun p ⟨p1,p2,p3,p4⟩=> .ite (fun h1=> ?_) fun _=> .req (by omega) (.ret ⟨p1,p2,p3,fun he=> ?_⟩)
  ·simp only [decide_eq_true_eq]at h1;omega
  ·obtain⟨q1,q2⟩:=p4 he;refine⟨?_,q2⟩;dsimp only;rw [q1,Int.tmod_eq_emod_of_nonneg (by omega)]
theorem zHS [Inhabited B7] {c:Ap} {k:Int} (n:Int) (XS:n≤200) (h:A1 c k) (hs:sd c) (hk:k≤4611686018427387000):Bf (C5 c n) fun p=>p.2.ax=c.ax∧c.bw≤p.2.bw∧sd p.2:=by
 by_cases hn:2≤n
 ·exact(Qo n hn XS h hk).mono fun p ⟨a,b,d,_⟩=>⟨a,by omega,d⟩
 ·unfold C5;refine .ite (fun _=> .ret ⟨rfl,Int.le_refl _,hs⟩) fun h1=> ?_;simp only [decide_eq_false_iff_not]at h1;omega
theorem x6 [Inhabited B7] {c:Ap} {k:Int} (n:Int) (hn:2≤n) (XS:n≤200) (h:A1 c k) (hk:k≤4611686018427387000):Bf (F8 c n) fun p=>p.2.ax=c.ax∧p.2.bw=c.bw+1∧sd p.2∧(HU c→p.1=decide ((Ep (Gk c.a7.toNat):Nat) % n=(0:Int))∧p.2=nx c):=by unfold F8;refine(Qo n hn XS h hk).bind fun p ⟨p1,p2,p3,p4⟩=> .ret ⟨p1,p2,p3,fun he=> ?_⟩;obtain⟨q1,q2⟩:=p4 he;refine⟨?_,q2⟩;dsimp only;rw [q1];rfl
structure zKe (c:Ap) (t:Ad) (c':Ap):Prop where
 code:c'.ax=c.ax
 at_:c.bw+1≤c'.bw
 o8:sd c'
 bare:HU c→t.ah= []→c'=nx (nx (nx (nx (nx (nx c)))))∧(Ep (Gj 3 c.a7.toNat)) % 3=0
structure Yy [Inhabited B7] (c:Ap) (q:Nat) (l:List Au) (d:Ap):Prop where
 code:d.ax=c.ax
 at_:c.bw+1≤d.bw
 o8:sd d
 ok:A1 d d.bw
 bare:HU c→l= []→(q=0→d=nx (nx c))∧(q=1→d=nx (nx (nx (nx c))))∧(q=2→d=nx (nx (nx (nx (nx c)))))∧(q=3→d=nx (nx (nx (nx (nx (nx c))))))∧(1≤q→(Ep (Gj 3 c.a7.toNat)) % 3=0)
theorem uI (c:Ap):(nx c).a7.toNat=Gk c.a7.toNat:=by unfold nx;dsimp only;omega
theorem A1.self [Inhabited B7] {c:Ap} {k:Int} (h:A1 c k):A1 c c.bw:=⟨h.1,h.2.1,Int.le_refl _⟩
theorem zxn [Inhabited B7] {c:Ap} {v2:Int × Ap} {q:Nat} {l:List Au} {y:Af} {d:Ap} {t:Bool} (h0:0≤v2.1) (h3:v2.1<3) (hq:q<3) (hl:l.length≤q) (hd:d.ax=c.ax∧c.bw+1≤d.bw∧sd d∧A1 d d.bw) (hk:d.bw≤4611686018427380000)
  (hb:t=false→HU c→l= []→(q=0→d=nx (nx (nx (nx c))))∧(q=1→d=nx (nx (nx (nx (nx c)))))∧(q=2→d=nx (nx (nx (nx (nx (nx c))))))∧(Ep (Gj 3 c.a7.toNat)) % 3=0):
  Bf (NH v2 q l y d.ax d.bw d.a7 t) fun o=> ∃(c':Ap) (l':List Au),o= .inl (((q+1:Nat):Int),c'.ax,c'.bw,c'.a7,l')∧l'.length≤q+1∧c'.bw≤d.bw+10∧Yy c (q+1) l' c':=by
 unfold NH;obtain⟨d1,d2,d3,d4⟩:=hd;have hw:=(cQ h0 h3).2;unfold Rn at hw;have w1:IntKind.i64.wrap ((q:Int)+1)=((q+1:Nat):Int):=by rw [Ba (by omega) (by omega)];omega
 refine .ite (fun _=> ?_) fun ht=> .ret ⟨d,l,by rw [w1],by omega,by omega,⟨d1,d2,d3,d4,fun he G4=> ?_⟩⟩
 ·rw [hw,Ba (n:=2+v2.1-1) (by omega) (by omega)];refine((zHS (c:=⟨d.ax,d.bw,d.a7⟩) _ (by omega) d4 d3 (by omega)).and (Dy _ d4 (by omega))).bind fun p ⟨⟨p1,p2,p3⟩,hp,pc⟩=>((Qo 4 (by omega) (by omega) pc (by omega)).and (Dy 4 pc (by omega))).bind fun r ⟨⟨r1,r2,r3,_⟩,hr,rc⟩=> ?_;refine .req (by simp;omega) (.ret ⟨r.2,_,by rw [w1],by rw [Ar,AH];omega,by have:=rc.2.2;omega,⟨by rw [r1,p1];exact d1,by dsimp only at p2;omega,r3,rc.self,fun _ G4=> ?_⟩⟩);simp at G4
 ·obtain⟨b0,b1,b2,b3⟩:=hb ht he G4;exact⟨by omega,fun h=>b0 (by omega),fun h=>b1 (by omega),fun h=>b2 (by omega),fun _=>b3⟩
theorem sC [Inhabited B7] {c:Ap} {k:Int} (h:A1 c k) (hk:k≤4611686018427370000):Bf (Jo c) fun p=>zKe c p.1 p.2:=by
 unfold Jo Ii;refine Bf.bind (P:=fun v=>v.2.ax=c.ax∧v.2.bw=c.bw+1∧sd v.2∧(HU c→v.2=nx c)) (((Qo 2 (by omega) (by omega) h (by omega)).and (Dy 2 h (by omega))).bind fun v ⟨⟨a1,a2,a3,a4⟩,hv,_⟩=> ?_) fun n ⟨n1,n2,n3,n4⟩=> ?_
 ·exact Bf.bind (P:=fun _=>True) (.getI hv.1 (by have:=hv.2.1 (by omega);simpa using this) fun _ _=>trivial) fun _ _=> .ret ⟨a1,a2,a3,fun he=>(a4 he).2⟩
 have hc:A1 n.2 (c.bw+1):=⟨by rw [n1];exact h.1,by have:=h.2.1;omega,by omega⟩
 have u7:=h.2.2;have Uh:=h.2.1;refine((Qo 3 (by omega) (by omega) hc (by omega)).and (Dy 3 hc (by omega))).bind fun p ⟨⟨p1,p2,p3,p4⟩,hp,hd⟩=> ?_;have pp2:=hp.2.1 (by omega);obtain⟨GL,F5⟩:=cQ hp.1 pp2;unfold Rn at GL F5;have w1:IntKind.i64.wrap (2+p.1)=2+p.1:=Ba (by omega) (by omega);refine .req ⟨by omega,by rw [w1];omega,by rw [w1];simp;omega⟩ (.req (by rw [F5];simp;omega) ?_);have Pn:Yy c 0 [] p.2:=⟨by rw [p1,n1],by omega,p3,hd.self,fun he _=>by have e1:=n4 he;have e2:=(p4 (by rw [e1];exact FB he)).2;rw [e1]at e2;exact⟨fun _=>e2,by omega,by omega,by omega,by omega⟩⟩
 refine K7 (fun m s=> ∃q:Nat,s.1=(q:Int)∧q+m=3∧s.2.2.2.2.length≤q∧s.2.2.1≤c.bw+4+20*q∧Yy c q s.2.2.2.2 ⟨s.2.1,s.2.2.1,s.2.2.2.1⟩) (fun m s hI=> ?_) (n:=3) (by exact⟨0,rfl,rfl,by simp,by dsimp only;omega,Pn⟩);obtain⟨q,e1,e2,hl,hf,hT⟩:=hI;obtain⟨s1,a,b,e,l⟩:=s;dsimp only at e1 hl hf hT ⊢;subst e1;have Az:=hT.ok;dsimp only at Az;unfold lX;have ec:(([([105]:Ab),([106]:Ab),([109]:Ab)]:List (Ab)).length:Int)=3:=rfl;rw [ec];have fin: ∀(d:Ap) (t:Bool) (y:Af),q<3→d.ax=c.ax→b+1≤d.bw→d.bw≤b+2→sd d→(t=false→HU c→l= []→(q=0→d=nx (nx (nx (nx c))))∧(q=1→d=nx (nx (nx (nx (nx c)))))∧(q=2→d=nx (nx (nx (nx (nx (nx c))))))∧(Ep (Gj 3 c.a7.toNat)) % 3=0)→
   Bf (NH p q l y d.ax d.bw d.a7 t) fun o=> ∃(c':Ap) (l':List Au),o= .inl (((q+1:Nat):Int),c'.ax,c'.bw,c'.a7,l')∧l'.length≤q+1∧c'.bw≤d.bw+10∧Yy c (q+1) l' c':=by
  intro d t y hq d1 d2 d3 d4 hb;have ha:=hT.at_;dsimp only at ha;exact zxn hp.1 pp2 hq hl ⟨d1,by omega,d4,⟨by rw [d1];exact h.1,by omega,Int.le_refl _⟩⟩ (by omega) hb
 refine .ite (fun Ak=> ?_) fun EG=> ?_
 ·simp only [decide_eq_true_eq]at Ak;have hq:q<3:=by omega
  have eg:getI [([105]:Ab),([106]:Ab),([109]:Ab)] (q:Int)=some ((IJ[q]?).getD []):=by
   have:q=0∨q=1∨q=2:=by omega
   rcases this with rfl|rfl|rfl<;>rfl
  rw [eg,Aa];have H3:=hT.code;dsimp only at H3;refine((x6 3 (by omega) (by omega) Az (by omega)).and (Hc 3 Az (by omega))).bind fun x ⟨⟨x1,x2,x3,x4⟩,hx⟩=> ?_;dsimp only at x1 x2;refine .ite (fun _=> ?_) fun Jm=> .ite (fun hi=> ?_) fun hi=> ?_
  ·refine(fin x.2 true _ hq (by rw [x1,H3]) (by omega) (by omega) x3 (fun h=>by cases h)).mono fun o ho=> ?_;obtain⟨c',l',rfl,g1,g2,g3⟩:=ho;exact⟨m-1,by omega,q+1,rfl,by omega,g1,by dsimp only;omega,g3⟩
  ·refine((x6 8 (by omega) (by omega) hx (by omega)).and (Hc 8 hx (by omega))).bind fun z ⟨⟨z1,z2,z3,z4⟩,hz⟩=> ?_;have Q9:q=0:=by
    have:q=0∨q=1∨q=2:=by omega
    rcases this with h|h|h
    ·exact h
    ·rw [h]at hi;exact absurd hi (by decide)
    ·rw [h]at hi;exact absurd hi (by decide)
   refine(fin z.2 _ _ hq (by rw [z1,x1,H3]) (by omega) (by omega) z3 (fun U3 he G4=> ?_)).mono fun o ho=> ?_
   ·have hb:=(hT.bare he G4).1 Q9;have Cl:HU (⟨a,b,e⟩:Ap):=by rw [hb];exact FB (FB he)
    obtain⟨y1,y2⟩:=x4 Cl;rw [hb]at y1 y2;have w2:=(z4 (by rw [y2];exact FB (FB (FB he)))).2;rw [y2]at w2;refine⟨fun _=>w2,by omega,by omega, ?_⟩;rw [y1,uI,uI]at Jm;simp only [Bool.not_eq_false',decide_eq_true_eq]at Jm;show Ep (Gk (Gk (Gk c.a7.toNat))) % 3=0;omega
   ·obtain⟨c',l',rfl,g1,g2,g3⟩:=ho;exact⟨m-1,by omega,q+1,rfl,by omega,g1,by dsimp only;omega,g3⟩
  ·have hqn:q≠0:=fun h=>by rw [h]at hi;exact absurd hi (by decide)
   refine(fin x.2 false _ hq (by rw [x1,H3]) (by omega) (by omega) x3 (fun _ he G4=> ?_)).mono fun o ho=> ?_
   ·obtain⟨b0,b1,b2,b3,b4⟩:=hT.bare he G4;refine⟨by omega,fun h=> ?_,fun h=> ?_,b4 (by omega)⟩
    ·have hb:=b1 h;rw [hb]at x4;exact(x4 (FB (FB (FB (FB he))))).2
    ·have hb:=b2 h;rw [hb]at x4;exact(x4 (FB (FB (FB (FB (FB he)))))).2
   ·obtain⟨c',l',rfl,g1,g2,g3⟩:=ho;exact⟨m-1,by omega,q+1,rfl,by omega,g1,by dsimp only;omega,g3⟩
 ·simp only [decide_eq_false_iff_not]at EG;have:q=3:=by omega
  subst this;refine .ret (.ret ⟨hT.code,hT.at_,hT.o8,fun he G4=> ?_⟩);obtain⟨_,_,_,b3,b4⟩:=hT.bare he G4;exact⟨b3 rfl,b4 (by omega)⟩
noncomputable def JA:Nat→Ap→Option (Ad × Ap)
 |0,c=>Jo c
 |n+1,c=>(Jo c).bind fun p=>if p.1.ah.length=0 then JA n p.2 else some p
theorem zyp [Inhabited B7]: ∀(n:Nat) {c:Ap} {k:Int},A1 c k→k+40*n≤4611686018427360000→Bf (JA n c) fun p=>A0 p.1=true∧A1 p.2 (k+40*(n+1))
 |0,c,k,h,hk=>(WR h (by omega)).mono fun p hp=>⟨hp.1,hp.2.up (by omega)⟩
 |n+1,c,k,h,hk=>by
  unfold JA;refine(WR h (by omega)).bind fun p hp=> ?_;split
  ·exact(zyp n hp.2 (by omega)).mono fun q hq=>⟨hq.1,hq.2.up (by omega)⟩
  ·exact .ret ⟨hp.1,hp.2.up (by omega)⟩
theorem zuR [Inhabited B7]: ∀(n:Nat) {c:Ap} {k:Int},A1 c k→k+40*n≤4611686018427360000→HU c→Bf (JA n c) fun p=>p.1.ah= []→ ∀j≤n,Ep (Gj (6*j+3) c.a7.toNat) % 3=0
 |0,c,k,h,hk,he=>by
  refine(sC h (by omega)).mono fun p hp hl j hj=> ?_;have:j=0:=by omega
  subst this;exact(hp.bare he hl).2
 |n+1,c,k,h,hk,he=>by
  unfold JA;refine((sC h (by omega)).and (WR h (by omega))).bind fun p ⟨hp,_,ho⟩=> ?_;split
  ·rename_i h0;have hl:p.1.ah= []:=List.eq_nil_of_length_eq_zero h0;obtain⟨b1,b2⟩:=hp.bare he hl;have he2:HU p.2:=by rw [b1];exact FB (FB (FB (FB (FB (FB he)))))
   refine(zuR n ho (by omega) he2).mono fun q hq J1 j hj=> ?_;cases j with
   |zero=>exact b2
   |succ j=>have:=hq J1 j (by omega);rw [b1]at this;simp only [uI]at this;rw [show 6*(j+1)+3=6+(6*j+3) by omega,Xe];exact this
  ·rename_i h0;exact .ret fun hl=>absurd (by rw [hl];rfl) h0
theorem zti [Inhabited B7]: ∀(m n:Nat) {c:Ap} {k:Int},A1 c k→k+40*(m+n)≤4611686018427360000→sd c→(c.ax.length:Int)-c.bw≤m→(∀{c':Ap} {k':Int},A1 c' k'→k'+40*n≤4611686018427360000→HU c'→Bf (JA n c') fun p=>p.1.ah≠ [])→Bf (JA (m+n) c) fun p=>p.1.ah≠ []
 |0,n,c,k,h,hk,hs,hl,Cl=>by rw [Nat.zero_add];exact Cl h (by omega) ⟨by omega,hs⟩
 |m+1,n,c,k,h,hk,hs,hl,Cl=>by
  rw [Nat.add_right_comm];unfold JA;refine((sC h (by omega)).and (WR h (by omega))).bind fun p ⟨hp,_,ho⟩=> ?_;split
  ·have h1:=hp.at_;exact zti m n ho (by omega) hp.o8 (by rw [hp.code];omega) Cl
  ·rename_i h0;exact .ret fun hl=>h0 (by rw [hl];rfl)
def Rp:Nat:=70368744177664
theorem zBD [Inhabited B7] {c:Ap} {k:Int} (h:A1 c k) (hk:k+40*Rp≤4611686018427360000) (he:HU c):Bf (JA Rp c) fun p=>p.1.ah≠ []:=by
 refine(zuR Rp h hk he).mono fun p hp hl=> ?_;have h0:=hp hl 0 (by decide);have h1:=hp hl 35184372088832 (by decide);have h2:=hp hl 70368744177664 (by decide);refine zKi (x:=Gj 3 c.a7.toNat) h0 ?_ ?_
 ·rw [←Xe];exact h1
 ·rw [←Xe,←Xe];exact h2
theorem TT {β:Type} {n:Nat} {r:Option β} {body:Int→Option (Int ⊕ Option β)} (hs: ∀i:Nat,i<n→body i=some (.inl ((i+1:Nat):Int))) (he:body n=some (.inr r)):Ay body 0=r:=by
 match r with
 |none=>
  have key: ∀(m q:Nat),q+m=n→Ay body (q:Int)=none:=by
   intro m
   induction m with
   |zero=>
    intro q hq;have:q=n:=by omega
    subst this;exact Df he
   |succ m ih=>intro q hq;rw [DF (hs q (by omega))];exact ih (q+1) (by omega)
  exact key n 0 (by omega)
 |some b=>have h:=N4 (n:=n) (body:=body) (fun _=>true) b (some b) (fun i hi=>by rw [if_pos rfl];exact hs i hi) he;rw [h];split<;>rfl
theorem zFa {xs:List Af} (h:xs.length≤2000000):aM xs xs=some true:=by
 unfold aM;rw [if_neg (by simp)];exact TT (n:=xs.length) (fun i hi=>by
  show VR xs xs i=_;unfold VR;rw [if_pos (by simpa using hi),AL hi,Aa,Aa,if_neg (by simp),Bi hi (by omega)]) (by
  show VR xs xs _=_;unfold VR;rw [if_neg (by simp)])
theorem zFo {xs:List Int} (h:xs.length≤2000000):aR xs xs=some true:=by
 unfold aR;rw [if_neg (by simp)];exact TT (n:=xs.length) (fun i hi=>by
  show VV xs xs i=_;unfold VV;rw [if_pos (by simpa using hi),AL hi,Aa,Aa,if_neg (by simp),Bi hi (by omega)]) (by
  show VV xs xs _=_;unfold VV;rw [if_neg (by simp)])
theorem zFR {xs:List Bool} (h:xs.length≤2000000):aL xs xs=some true:=by
 unfold aL;rw [if_neg (by simp)];exact TT (n:=xs.length) (fun i hi=>by
  show VX xs xs i=_;unfold VX;rw [if_pos (by simpa using hi),AL hi,Aa,Aa,if_neg (by simp),Bi hi (by omega)]) (by
  show VX xs xs _=_;unfold VX;rw [if_neg (by simp)])
theorem zFs {xs:List Ac} (h:xs.length≤2000000):aP xs xs=some true:=by
 unfold aP;rw [if_neg (by simp)];exact TT (n:=xs.length) (fun i hi=>by
  show VS xs xs i=_;unfold VS;rw [if_pos (by simpa using hi),AL hi,Aa,Aa,if_neg (by simp),Bi hi (by omega)]) (by
  show VS xs xs _=_;unfold VS;rw [if_neg (by simp)])
theorem zFS {t:Ad} (h:Dl t):aN t t=some true:=by
 have h1:=h.idxs;unfold aN;rw [if_neg (by simp),zFa h.ij,Aa,if_neg (by simp)];exact TT (n:=t.ah.length) (fun i hi=>by
  show VW t t i=_;unfold VW;rw [if_pos (by simpa using hi),AL hi,Aa,Aa,if_neg (by simp),Bi hi (by omega)]) (by
  show VW t t _=_;unfold VW;rw [if_neg (by simp)])
theorem zDb {xs:List Ad} (h:xs.length≤2000000) (ht: ∀t∈xs,Dl t):Z6 xs xs=some true:=by
 unfold Z6;rw [if_neg (by simp)];exact TT (n:=xs.length) (fun i hi=>by
  show VM xs xs i=_;unfold VM;rw [if_pos (by simpa using hi),AL hi,Aa,Aa,zFS (ht _ (List.getElem_mem hi)),Aa,if_neg (by simp),Bi hi (by omega)]) (by
  show VM xs xs _=_;unfold VM;rw [if_neg (by simp)])
structure zKq (t:Ad):Prop where
 name:t.ae.length≤9223372036854775807
 ij:t.ar.length≤9223372036854775807
 lr: ∀c∈t.ar,c.length≤9223372036854775807
 idxs:t.ah.length≤9223372036854775807
 idx: ∀x∈t.ah,x.ae.length≤9223372036854775807
def Hh (st:List Int):Int:=if st.contains 3 then 2 else if st.contains 0 then 0 else 1
theorem yR {xs:List Int} {k:Int} (h:xs.length≤2000000):Wo xs k=some (xs.contains k):=by
 have key: ∀(n q:Nat),q+n=xs.length→Ay (fun s:Int=>SL xs k s) (q:Int)=some ((xs.drop q).contains k):=by
  intro n
  induction n with
  |zero=>
   intro q hq;have:q=xs.length:=by omega
   subst this;rw [Fz];have e:SL xs k xs.length=some (.inr (some false)):=by unfold SL;rw [if_neg (by simp)]
   rw [e];simp
  |succ n ih=>
   intro q hq;have Ak:q<xs.length:=by omega
   have ih2:=ih (q+1) (by omega);rw [Fz,List.drop_eq_getElem_cons Ak,List.contains_cons];have e:SL xs k q=some (if(xs[q]==k)=true then .inr (some true)else .inl ((q+1:Nat):Int)):=by unfold SL;rw [if_pos (by simpa using Ak),AL Ak,Aa,Bi Ak (by omega)];cases(xs[q]==k)<;>rfl
   rw [e];by_cases h1:(xs[q]==k)=true
   ·have h2:xs[q]=k:=by simpa using h1
    rw [if_pos h1];simp [h2]
   ·have h2:(k==xs[q])=false:=by
     rw [Bool.eq_false_iff];intro h3;exact h1 (by simp at h3 ⊢;omega)
    rw [if_neg h1,h2,Bool.false_or];exact ih2
 have:=key xs.length 0 (by omega);unfold Wo;simpa using this
theorem zHs {s:Aq} {st:List Int} (hn:st.length=s.bp.length) (hl:st.length≤2000000) (hs: ∀(i:Nat) (hi:i<st.length),∃tb,GN s i=some tb∧Kn s tb=some st[i]):Ze s=some (Hh st):=by
 have key: ∀(n q:Nat) (v:Int),q+n=st.length→Ay (fun x:Int × Int=>RZ s x.1 x.2) (v,(q:Int))=some (if(st.drop q).contains 3 then 2 else if(st.drop q).contains 0 then 0 else v):=by
  intro n
  induction n with
  |zero=>
   intro q v hq;have:q=st.length:=by omega
   subst this;have e:RZ s v st.length=some (.inr (some v)):=by unfold RZ;rw [if_neg (by simp [hn])]
   rw [Fz];dsimp only;rw [e];simp
  |succ n ih=>
   intro q v hq;have Ak:q<st.length:=by omega
   obtain⟨tb,e1,e2⟩:=hs q Ak;have e:RZ s v q=some (if(st[q]==3)=true then .inr (some 2)else if(st[q]==0)=true then .inl (0,((q+1:Nat):Int))else .inl (v,((q+1:Nat):Int))):=by unfold RZ;rw [if_pos (by simp;omega),e1,Aa,e2,Aa,Bi Ak (by omega)];cases(st[q]==3)<;>cases(st[q]==0)<;>rfl
   rw [Fz,List.drop_eq_getElem_cons Ak,List.contains_cons,List.contains_cons];dsimp only;rw [e];by_cases h1:st[q]=3
   ·simp [h1]
   ·have i0:=ih (q+1) 0 (by omega);have iv:=ih (q+1) v (by omega);have h1a:(st[q]==3)=false:=by simpa using h1
    have h1b:((3:Int)==st[q])=false:=by simp;omega
    rw [h1a,h1b,Bool.false_or];by_cases h2:st[q]=0
    ·simp only [h2,beq_self_eq_true,Bool.true_or,if_true,AW,if_false];rw [i0];split<;>(try split)<;>rfl
    ·have h2a:(st[q]==0)=false:=by simpa using h2
     have h2b:((0:Int)==st[q])=false:=by simp;omega
     rw [h2a,h2b,Bool.false_or];exact iv
 have:=key st.length 0 1 (by omega);unfold Ze;simpa [Hh]using this
theorem zyj {s:Aq} {st:List Int} (hn:st.length=s.bp.length) (hl:st.length≤2000000) (hs: ∀(i:Nat) (hi:i<st.length),∃y tb k x,getI s.bp i=some y∧getI s.aj y=some tb∧GQ tb s.ae=some k∧getI tb.ah k=some x∧x.aq=st[i]):Ml s=some st:=by
 unfold Ml;have h1:=Gb (xs:=st) (body:=fun x:List Int × Int=>Sh s x.1 x.2) (fun i (o:List Int)=>(o,i)) (fun(o:List Int) x=>o++ [x]) (fun o=>some o) (fun i o=>o.length=i)
  (fun i hi o ho=>by
   refine⟨?_,by simp [ho]⟩;obtain⟨y,tb,k,x,e1,e2,e3,e4,e5⟩:=hs i hi;show Sh s o i=_;unfold Sh;have hq:((((o).length:Int)+(([x.aq]:List Int).length:Int))*8≤140737488355328∧((o).length:Int)+(([x.aq]:List Int).length:Int)≤140737488355328):=by rw [AH];omega
   rw [if_pos (by simp;omega),e1,Aa,e2,Aa,e3,Aa,e4,Aa,AQ hq,Bi hi (by omega),e5])
  (fun o ho=>by show Sh s o st.length=_;unfold Sh;rw [if_neg (by simp [hn])]) (s:=([]:List Int)) rfl
 have h3:=h1.1;rw [show(fun(o:List Int) x=>o++ [x])=(fun o x=>o++ [id x])from rfl,rV,List.map_id,List.nil_append]at h3;exact h3
theorem yJ {s:Aq} {st:List Int} (hn:st.length=s.bp.length) (hl:st.length≤2000000) (hs: ∀(i:Nat) (hi:i<st.length),∃y tb k x,getI s.bp i=some y∧getI s.aj y=some tb∧GQ tb s.ae=some k∧getI tb.ah k=some x∧x.aq=st[i]):Wk s=some (Hh st):=by unfold Wk Hh;rw [zyj hn hl hs,Aa,yR hl,Aa,yR hl,Aa];split<;>(try split)<;>rfl
theorem Ok {α:Type} {xs:List α} {i:Int} {x:α} (h:getI xs i=some x):0≤i∧xs[i.toNat]?=some x∧i<xs.length:=by
 unfold getI at h;split at h
 ·rename_i h0;have:=(List.getElem?_eq_some_iff.1 h).1;exact⟨h0,h,by omega⟩
 ·cases h
def Da (t:Ad) (k c:Int):Ad:=⟨t.ae,t.ar,t.ah.set k.toNat {((t.ah[k.toNat]?).getD ⟨[],0,0⟩)with aq:=c}⟩
def Gm (a b:Int):Int:=if a<b then a+1 else a-1
def Fm:Nat→Int→Int→List Int
 |0,_,_=> []
 |f+1,a,b=>if a=b then []else Gm a b::Fm f (Gm a b) b
def way (t:Ad) (k a b:Int):List Ad:=t::(Fm 3 a b).map (Da t k)
theorem sW: ∀(f:Nat) {a b:Int},0≤a→a≤3→0≤b→b≤3→ ∀c∈Fm f a b,0≤c∧c≤3
 |0,_,_,_,_,_,_,c,hc=>by simp [Fm]at hc
 |f+1,a,b,h1,h2,h3,h4,c,hc=>by
  unfold Fm at hc;split at hc
  ·simp at hc
  ·have hn:0≤Gm a b∧Gm a b≤3:=by unfold Gm;split<;>omega
   rcases Ag.1 hc with rfl|hc
   ·exact hn
   ·exact sW f hn.1 hn.2 h3 h4 c hc
theorem sA: ∀(f:Nat) (a b:Int),(Fm f a b).length≤f
 |0,_,_=>by simp [Fm]
 |f+1,a,b=>by
  unfold Fm;split
  ·simp
  ·have:=sA f (Gm a b) b;simp;omega
theorem sM {t:Ad} {k b:Int} {body:Int × List Ad→Option ((Int × List Ad) ⊕ Option (List Ad))} (H2:0≤b) (Gu:b≤3)
  (hs: ∀a o,0≤a→a≤3→a≠b→o.length≤100→body (a,o)=some (.inl (Gm a b,o++ [Da t k (Gm a b)]))) (he: ∀o,body (b,o)=some (.inr (some o))):
  ∀(f:Nat) (a:Int) (o:List Ad),0≤a→a≤3→(a-b).natAbs≤f→o.length+f≤100→Ay body (a,o)=some (o++(Fm f a b).map (Da t k))
 |0,a,o,_,_,hf,_=>by
  have:a=b:=by omega
  subst this;rw [Fz,he];simp [Fm]
 |f+1,a,o,h0,h3,hf,ho=>by
  by_cases LL:a=b
  ·subst LL;rw [Fz,he];simp [Fm]
  ·rw [Fz,hs a o h0 h3 LL (by omega)];have hn:0≤Gm a b∧Gm a b≤3∧(Gm a b-b).natAbs≤f:=by unfold Gm;split<;>omega
   have:=sM H2 Gu hs he f (Gm a b) (o++ [Da t k (Gm a b)]) hn.1 hn.2.1 hn.2.2 (by simp;omega);simp only [this,Fm,if_neg LL,List.map_cons,List.append_assoc,List.singleton_append]
theorem kE {t:Ad} (h:Dl t):SO t=some t:=by unfold SO;have h1:=h.ij;have h2:=h.idxs;rw [AQ (by simp;omega),AQ (by simp;omega)]
theorem tV {t:Ad} (h:Dl t):Sp t=some t:=by unfold Sp Vt lO;have h1:=h.ij;have h2:=h.idxs;rw [Ob (by omega) (by omega),Aa,Ob (by omega) (by omega),Aa]
theorem jN {t:Ad} {n:Af} {x:Au} {c:Int} (h:Dl t) (hx:EO t n x):SQ t n c=some (Da t (BH (fun y:Au=>y.ae==n) t.ah) c):=by unfold SQ Da;rw [kE h,Aa,Jz h,Aa,hx.at_,Aa,(Ok hx.at_).2.1];rfl
theorem zS {t:Ad} {n:Af} {x:Au} {c:Int} (h:Dl t) (hx:EO t n x):Vw t n c=some (Da t (BH (fun y:Au=>y.ae==n) t.ah) c):=by unfold Vw Da;rw [tV h,Aa,Xs h,Aa,hx.at_,Aa,(Ok hx.at_).2.1];rfl
theorem zGn {t:Ad} {n:Af} {x:Au} {b:Int} (h:Dl t) (hx:EO t n x) (h0:0≤x.aq) (h3:x.aq≤3) (H2:0≤b) (Gu:b≤3):Wm t n b=some (way t (BH (fun y:Au=>y.ae==n) t.ah) x.aq b):=by
 unfold Wm;rw [kE h,Aa,Jz h,Aa,hx.at_,Aa];refine(sM (t:=t) (k:=BH (fun y:Au=>y.ae==n) t.ah) H2 Gu ?_ ?_ 3 x.aq [t] h0 h3 (by omega) (by simp)).trans (by simp [way])
 ·intro a o QY Ud LL ho;show VQ t n b a o=_;unfold VQ;rw [if_pos (by simpa using LL)];have w1:IntKind.i64.wrap (a+1)=a+1:=Ba (by omega) (by omega);have w2:IntKind.i64.wrap (a-1)=a-1:=Ba (by omega) (by omega);by_cases Ak:a<b
  ·rw [if_pos (by simpa using Ak),w1,jN h hx,Aa,AQ (by simp;omega)];simp [Gm,Ak]
  ·rw [if_neg (by simpa using Ak),w2,jN h hx,Aa,AQ (by simp;omega)];simp [Gm,Ak]
 ·intro o;show VQ t n b b o=_;unfold VQ;rw [if_neg (by simp)]
theorem zIM {t:Ad} {n:Af} {x:Au} {b:Int} (h:Dl t) (hx:EO t n x) (h0:0≤x.aq) (h3:x.aq≤3) (H2:0≤b) (Gu:b≤3):Y0 t n b=some (way t (BH (fun y:Au=>y.ae==n) t.ah) x.aq b):=by
 unfold Y0 NQ;rw [Xs h,Aa,hx.at_,Aa,Aa,tV h,Aa];refine(sM (t:=t) (k:=BH (fun y:Au=>y.ae==n) t.ah) H2 Gu ?_ ?_ 3 x.aq [t] h0 h3 (by omega) (by simp)).trans (by simp [way])
 ·intro a o QY Ud LL ho;show Vz t n b a o=_;unfold Vz;rw [if_pos (by simpa using LL)];have w1:IntKind.i64.wrap (a+1)=a+1:=Ba (by omega) (by omega);have w2:IntKind.i64.wrap (a-1)=a-1:=Ba (by omega) (by omega);by_cases Ak:a<b
  ·rw [if_pos (by simpa using Ak),w1,zS h hx,Aa,AQ (by simp;omega)];simp [Gm,Ak]
  ·rw [if_neg (by simpa using Ak),w2,zS h hx,Aa,AQ (by simp;omega)];simp [Gm,Ak]
 ·intro o;show Vz t n b b o=_;unfold Vz;rw [if_neg (by simp)]
theorem Tj {α β:Type} {xs ys:List α} (hl:xs.length=ys.length) {body:Int→Option (Int ⊕ Option β)} (p:α→α→Bool) (b:β) (fin:Option β)
  (hs: ∀(i:Nat) (hi:i<xs.length) (hj:i<ys.length),body i=some (if p xs[i] ys[i]=true then .inl ((i+1:Nat):Int)else .inr (some b))) (he:body xs.length=some (.inr fin)):Ay body 0=if((xs.zip ys).all fun z=>p z.1 z.2)=true then fin else some b:=by
 have hz:(xs.zip ys).length=xs.length:=by simp [hl]
 have h1:=cT (xs:=xs.zip ys) (body:=body) (fun i (_:Unit)=>i) (fun z _=>some (if p z.1 z.2=true then .inl ()else .inr (some b))) (fun _=>fin)
  (fun i hi s=>by
   have CK:i<xs.length:=by omega
   have Q3:i<ys.length:=by omega
   rw [hs i CK Q3,List.getElem_zip];cases p xs[i] ys[i]<;>simp [MQ]) (fun s=>by rw [hz];exact he) ()
 rw [tQ (fun z:α × α=>p z.1 z.2) b fun x _ s=>rfl]at h1;exact h1
theorem QA {α γ:Type} {p:α→α→Bool} {f:α→γ} (h: ∀x y,p x y=true↔f x=f y): ∀{xs ys:List α},xs.length=ys.length→(((xs.zip ys).all fun z=>p z.1 z.2)=true↔xs.map f=ys.map f)
 | [], [],_=>by simp
 | [],_::_,h=>by simp at h
 |_::_, [],h=>by simp at h
 |x::xs,y::ys,hl=>by have:=QA h (xs:=xs) (ys:=ys) (by simpa using hl);simp only [List.zip_cons_cons,List.all_cons,Ae,List.map_cons,List.cons.injEq,this,h]
def nc (x:Au):Af × Int:=(x.ae,x.bj)
theorem xW {x y:Au} (h1:nc x=nc y) (h2:x.aq=y.aq):x=y:=by cases x;cases y;simp [nc]at h1 h2;simp [h1,h2]
theorem tE: ∀{xs ys:List Au},xs.map nc=ys.map nc→xs.map (·.aq)=ys.map (·.aq)→xs=ys
 | [], [],_,_=>rfl
 | [],_::_,h,_=>by simp at h
 |_::_, [],h,_=>by simp at h
 |x::xs,y::ys,h1,h2=>by simp only [List.map_cons,List.cons.injEq]at h1 h2;rw [xW h1.1 h2.1,tE h1.2 h2.2]
theorem rP {a b:Ad} (h1:a.ae=b.ae) (h2:a.ar=b.ar) (h3:a.ah=b.ah):a=b:=by cases a;cases b;simp at h1 h2 h3;simp [h1,h2,h3]
theorem zBH {a b:Ad} (ha:Dl a): ∃r,Zu a b=some r∧(r=true↔a.ae=b.ae∧a.ar=b.ar∧a.ah.map nc=b.ah.map nc):=by
 unfold Zu;by_cases h0:(((a.ae !=b.ae)||((a.ar.length:Int) !=(b.ar.length:Int)))||((a.ah.length:Int) !=(b.ah.length:Int)))=true
 ·rw [if_pos h0];refine⟨_,rfl,by simp, ?_⟩;rintro⟨h1,h2,h3⟩;have h4:=congrArg List.length h3;simp only [List.length_map]at h4;rw [h1,h2,h4]at h0;simp at h0
 ·rw [if_neg h0];simp only [Bool.or_eq_true,bne_iff_ne,ne_eq,not_or,Decidable.not_not,Int.natCast_inj]at h0;obtain⟨⟨h1,h2⟩,h3⟩:=h0;have hc:=ha.ij;have hi:=ha.idxs;rw [Tj (xs:=a.ar) (ys:=b.ar) h2 (fun x y=>x==y) false (Y2 a b) ?_ ?_]
  ·have hk:Y2 a b=some ((a.ah.zip b.ah).all fun z=>nc z.1==nc z.2):=by
    unfold Y2;rw [Tj (xs:=a.ah) (ys:=b.ah) h3 (fun x y=>nc x==nc y) false (some true) ?_ ?_]
    ·cases((a.ah.zip b.ah).all fun z=>nc z.1==nc z.2)<;>rfl
    ·intro i CK G1;show VI a b i=_;unfold VI;rw [if_pos (by simpa using CK),AL CK,Aa,AL G1,Aa,Bi CK (by omega)];by_cases hq:nc a.ah[i]=nc b.ah[i]
     ·have EK:=hq;simp only [nc,Prod.mk.injEq]at EK;rw [if_neg (by simp [EK.1,EK.2]),if_pos (by simpa using hq)]
     ·have EK:=hq;simp only [nc,Prod.mk.injEq,not_and]at EK;rw [if_pos (by simp only [Bool.or_eq_true,bne_iff_ne,ne_eq];by_cases hz:a.ah[i].ae=b.ah[i].ae;exact .inr (EK hz);exact .inl hz),if_neg (by simpa using hq)]
    ·show VI a b a.ah.length=_;unfold VI;rw [if_neg (by simp)]
   have z1:=QA (p:=fun x y:Af=>x==y) (f:=id) (by simp) h2;have z2:=QA (p:=fun x y:Au=>nc x==nc y) (f:=nc) (by simp) h3;rw [List.map_id,List.map_id]at z1;rw [hk];by_cases hz:((a.ar.zip b.ar).all fun z=>z.1==z.2)=true
   ·rw [if_pos hz];exact⟨_,rfl,by rw [z2];exact⟨fun h=>⟨h1,z1.1 hz,h⟩,fun h=>h.2.2⟩⟩
   ·rw [if_neg hz];exact⟨_,rfl,by simp,fun h=>absurd (z1.2 h.2.1) hz⟩
  ·intro i CK G1;show VK a b i=_;unfold VK;rw [if_pos (by simpa using CK),AL CK,Aa,AL G1,Aa,Bi CK (by omega)];by_cases hq:a.ar[i]=b.ar[i]
   ·rw [if_neg (by simp [hq]),if_pos (by simpa using hq)]
   ·rw [if_pos (by simpa using hq),if_neg (by simpa using hq)]
  ·show VK a b a.ar.length=_;unfold VK;rw [if_neg (by simp)]
structure NF (t:Ad):Prop where
 len:t.ah.length≤3
 o0: ∀x∈t.ah,0≤x.aq∧x.aq≤3
theorem wW: ∀(l:List (Au × Au)) (s:Int),0≤s→(l.foldl (fun s z=>s+((z.1.aq-z.2.aq).natAbs:Int)) s=0↔s=0∧ ∀z∈l,z.1.aq=z.2.aq)
 | [],s,_=>by simp
 |z::l,s,h=>by
  rw [List.foldl_cons,wW l _ (by omega)];constructor
  ·rintro⟨h1,h2⟩;exact⟨by omega,fun y hy=>by
    rcases Ag.1 hy with rfl|hy
    ·omega
    ·exact h2 y hy⟩
  ·rintro⟨h1,h2⟩;have:=h2 z (by simp);exact⟨by omega,fun y hy=>h2 y (by simp [hy])⟩
theorem zxD: ∀{xs ys:List Au},xs.length=ys.length→((∀z∈xs.zip ys,z.1.aq=z.2.aq)↔xs.map (·.aq)=ys.map (·.aq))
 | [], [],_=>by simp
 | [],_::_,h=>by simp at h
 |_::_, [],h=>by simp at h
 |x::xs,y::ys,hl=>by have:=zxD (xs:=xs) (ys:=ys) (by simpa using hl);simp only [List.zip_cons_cons,List.forall_mem_cons,this,List.map_cons,List.cons.injEq]
theorem zI4 (d:Int) (h1: -3≤d) (h2:d≤3):aQ d (IntKind.i64.wrap (0-d))=some (d.natAbs:Int):=by
 rw [Ba (by omega) (by omega)];unfold aQ;by_cases h:d>0-d
 ·rw [if_pos (by simpa using h)];congr 1;omega
 ·rw [if_neg (by simpa using h)];congr 1;omega
theorem zJZ {a b:Ad} (ha:NF a) (hb:NF b) (hl:a.ah.length=b.ah.length): ∃v,aO a b=some v∧(v=0↔a.ah.map (·.aq)=b.ah.map (·.aq)):=by
 unfold aO;have h3:=ha.len;have hz:(a.ah.zip b.ah).length=a.ah.length:=by simp [hl]
 have h1:=Gb (xs:=a.ah.zip b.ah) (body:=fun s:Int × Int=>Sv a b s.1 s.2) (fun i (s:Int)=>(s,i)) (fun(s:Int) z=>s+((z.1.aq-z.2.aq).natAbs:Int)) (fun s=>some s) (fun i s=>0≤s∧s≤3*(i:Int))
  (fun i hi s hs=>by
   have CK:i<a.ah.length:=by omega
   have Q3:i<b.ah.length:=by omega
   have ga:=ha.o0 a.ah[i] (List.getElem_mem CK);have gb:=hb.o0 b.ah[i] (List.getElem_mem Q3);rw [List.getElem_zip];refine⟨?_, ?_, ?_⟩
   ·show Sv a b s i=_;unfold Sv;rw [if_pos (by simpa using CK),AL CK,Aa,AL Q3,Aa,Ba (n:=a.ah[i].aq-b.ah[i].aq) (by omega) (by omega),zI4 _ (by omega) (by omega),Aa,Bi CK (by omega),Ba (by omega) (by omega)]
   ·dsimp only;omega
   ·dsimp only;push_cast;omega)
  (fun s hs=>by show Sv a b s ((a.ah.zip b.ah).length:Int)=_;unfold Sv;rw [hz,if_neg (by simp)]) (s:=0) ⟨by omega,by omega⟩
 refine⟨_,h1.1, ?_⟩;rw [wW _ _ (by omega),←zxD hl];simp
def Ix (a b:Ad):Bool:=a.ae==b.ae&&(a.ar==b.ar&&(a.ah.map nc==b.ah.map nc&&a.ah.map (·.aq)==b.ah.map (·.aq)))
theorem Tx {a b:Ad}:Ix a b=true↔a=b:=by
 unfold Ix;simp only [Ae,beq_iff_eq];constructor
 ·rintro⟨h1,h2,h3,h4⟩;exact rP h1 h2 (tE h3 h4)
 ·rintro rfl;simp
theorem zFg {a b:Ad} (ha:Dl a):NN a b=some (Ix a b):=by
 have key: ∃r,NN a b=some r∧(r=true↔a=b):=by
  unfold NN;by_cases h1:(a.ae==b.ae)=true
  ·rw [if_pos h1];have T1:a.ae=b.ae:=by simpa using h1
   have e1: ∃r,YJ a.ar b.ar=some r∧(r=true↔a.ar=b.ar):=by
    unfold YJ;by_cases h2:((a.ar.length:Int) !=(b.ar.length:Int))=true
    ·rw [if_pos h2];exact⟨_,rfl,by simp,fun h=>by rw [h]at h2;simp at h2⟩
    ·rw [if_neg h2];have Xx:a.ar.length=b.ar.length:=by
      have:(a.ar.length:Int)=b.ar.length:=by simpa using h2
      omega
     rw [Tj (xs:=a.ar) (ys:=b.ar) Xx (fun x y=>x==y) false (some true) ?_ ?_]
     ·have z1:=QA (p:=fun x y:Af=>x==y) (f:=id) (by simp) Xx;rw [List.map_id,List.map_id]at z1;rw [←z1];cases hz:((a.ar.zip b.ar).all fun z=>z.1==z.2)<;>exact⟨_,rfl,by simp⟩
     ·intro i CK G1;show Vq a.ar b.ar i=_;unfold Vq;have:=ha.ij;rw [if_pos (by simpa using CK),AL CK,Aa,AL G1,Aa,Bi CK (by omega)];by_cases hq:a.ar[i]=b.ar[i]
      ·rw [if_neg (by simp [hq]),if_pos (by simpa using hq)]
      ·rw [if_pos (by simpa using hq),if_neg (by simpa using hq)]
     ·show Vq a.ar b.ar a.ar.length=_;unfold Vq;rw [if_neg (by simp)]
   obtain⟨r1,e1,f1⟩:=e1;rw [e1,Aa];by_cases h2:r1=true
   ·rw [if_pos h2];have Xx:=f1.1 h2;have e2: ∃r,YN a.ah b.ah=some r∧(r=true↔a.ah=b.ah):=by
     unfold YN;by_cases h3:((a.ah.length:Int) !=(b.ah.length:Int))=true
     ·rw [if_pos h3];exact⟨_,rfl,by simp,fun h=>by rw [h]at h3;simp at h3⟩
     ·rw [if_neg h3];have T4:a.ah.length=b.ah.length:=by
       have:(a.ah.length:Int)=b.ah.length:=by simpa using h3
       omega
      rw [Tj (xs:=a.ah) (ys:=b.ah) T4 (fun x y=>x.ae==y.ae&&(x.bj==y.bj&&(x.aq==y.aq))) false (some true) ?_ ?_]
      ·have z1:=QA (p:=fun x y:Au=>x.ae==y.ae&&(x.bj==y.bj&&(x.aq==y.aq))) (f:=id) (fun x y=>by
        simp only [Ae,beq_iff_eq,id];constructor
        ·rintro⟨k1,k2,k3⟩;exact xW (by simp [nc,k1,k2]) k3
        ·rintro rfl;simp) T4
       rw [List.map_id,List.map_id]at z1;rw [←z1];cases((a.ah.zip b.ah).all fun z=>z.1.ae==z.2.ae&&(z.1.bj==z.2.bj&&(z.1.aq==z.2.aq)))<;>exact⟨_,rfl,by simp⟩
      ·intro i CK G1;show Vr a.ah b.ah i=_;unfold Vr;have:=ha.idxs;rw [if_pos (by simpa using CK),AL CK,Aa,AL G1,Aa,Bi CK (by omega)];cases(a.ah[i].ae==b.ah[i].ae&&(a.ah[i].bj==b.ah[i].bj&&(a.ah[i].aq==b.ah[i].aq)))<;>rfl
      ·show Vr a.ah b.ah a.ah.length=_;unfold Vr;rw [if_neg (by simp)]
    obtain⟨r2,e2,f2⟩:=e2;rw [e2,Aa];exact⟨_,rfl,by rw [f2];exact⟨fun h=>rP T1 Xx h,fun h=>by rw [h]⟩⟩
   ·rw [if_neg h2];exact⟨_,rfl,by simp,fun h=>absurd (f1.2 (by rw [h])) h2⟩
  ·rw [if_neg h1];exact⟨_,rfl,by simp,fun h=>by rw [h]at h1;simp at h1⟩
 obtain⟨r,e,f⟩:=key;rw [e];congr 1;rw [Bool.eq_iff_iff,f,Tx]
structure DK (s:Aq):Prop where
 name:s.ae.length≤2000000
 ways:s.aj.length≤2000000
 way: ∀t∈s.aj,Dl t
 at_:s.bp.length≤2000000
 store:Lr s.ao
theorem jX {t:Ad} (h:A0 t=true):NF t:=by unfold A0 at h;simp only [Ae,decide_eq_true_eq]at h;refine⟨by omega,fun x hx=> ?_⟩;obtain⟨i,hi,rfl⟩:=List.mem_iff_getElem.1 hx;have h1:=AK.1 h.2 i (List.mem_range.2 hi);unfold HT at h1;simp only [Ae,List.getElem?_eq_getElem hi,Option.getD_some]at h1;exact Ca.1 h1.1.2
theorem wG {α γ:Type} (f:α→γ): ∀(l:List α) (k:Nat) (d y:α),f y=f ((l[k]?).getD d)→(l.set k y).map f=l.map f
 | [],k,d,y,_=>rfl
 |x::l,0,d,y,h=>by simp only [List.getElem?_cons_zero,Option.getD_some]at h;simp [h]
 |x::l,k+1,d,y,h=>by simp only [List.getElem?_cons_succ]at h;simp [wG f l k d y h]
theorem Ws (t:Ad) (k c:Int):(Da t k c).ah.map (·.ae)=t.ah.map (·.ae):=wG _ _ _ ⟨[],0,0⟩ _ rfl
theorem zCK {t:Ad} {k c:Int} (h:NF t) (h0:0≤c) (h3:c≤3):NF (Da t k c):=by
 refine⟨by unfold Da;simpa using h.len,fun x hx=> ?_⟩;rcases List.mem_or_eq_of_mem_set hx with hx|rfl
 ·exact h.o0 x hx
 ·exact⟨h0,h3⟩
theorem zzc {t:Ad} {k c:Int} (h:Dl t):Dl (Da t k c):=by refine⟨h.name,h.ij,h.lr,by unfold Da;simpa using h.idxs,fun x hx=> ?_⟩;have h1:x.ae∈(Da t k c).ah.map (·.ae):=List.mem_map.2 ⟨x,hx,rfl⟩;rw [Ws]at h1;obtain⟨y,hy,e⟩:=List.mem_map.1 h1;rw [←e];exact h.idx y hy
theorem zHH {t:Ad} {k a b:Int} (hS:Dl t) (h:NF t) (QY:0≤a) (Ud:a≤3) (H2:0≤b) (Gu:b≤3): ∀w∈way t k a b,w.ah.map (·.ae)=t.ah.map (·.ae)∧NF w∧Dl w:=by
 intro w hw;rcases Ag.1 hw with rfl|hw
 ·exact⟨rfl,h,hS⟩
 ·obtain⟨c,hc,rfl⟩:=List.mem_map.1 hw;have:=sW 3 QY Ud H2 Gu c hc;exact⟨Ws t k c,zCK h this.1 this.2,zzc hS⟩
theorem zyE {xs ys:List Au} {n:Af} (h:xs.map (·.ae)=ys.map (·.ae)):decide (BH (fun x:Au=>x.ae==n) xs≥0)=decide (BH (fun x:Au=>x.ae==n) ys≥0):=by
 rw [Od,Od];have e: ∀l:List Au,(l.any fun x=>x.ae==n)=(l.map (·.ae)).any (· ==n):=fun l=>by rw [List.any_map];rfl
 rw [e,e,h]
def Nt:Ad:=⟨[], [], []⟩
def AN (s:Aq):Ad:=(s.aj[0]?).getD Nt
def Ip (s:Aq):Ad:=(s.aj[s.aj.length-1]?).getD Nt
def Cj (t:Ad) (n:Af):Int:=BH (fun y:Au=>y.ae==n) t.ah
def BD (t:Ad) (n:Af):Int:=((t.ah[(Cj t n).toNat]?).getD ⟨[],0,0⟩).aq
def D8 (s:Aq):List Ad:=way (AN s) (Cj (AN s) s.ae) (BD (AN s) s.ae) (BD (Ip s) s.ae)
theorem zEV {t:Ad} {n:Af} {x:Au} (h:EO t n x):BD t n=x.aq:=by unfold BD Cj;rw [(Ok h.at_).2.1];rfl
theorem Kv {s:Aq} (h:1≤s.aj.length):getI s.aj 0=some (AN s)∧AN s∈s.aj:=by
 have h0:0<s.aj.length:=by omega
 have e:AN s=s.aj[0]:=by unfold AN;rw [List.getElem?_eq_getElem h0];rfl
 rw [e];exact⟨AL h0,List.getElem_mem h0⟩
theorem sN {s:Aq} (h:1≤s.aj.length) (h4:s.aj.length≤4):getI s.aj (IntKind.i64.wrap ((s.aj.length:Int)-1))=some (Ip s)∧Ip s∈s.aj:=by
 have h0:s.aj.length-1<s.aj.length:=by omega
 have e:Ip s=s.aj[s.aj.length-1]:=by unfold Ip;rw [List.getElem?_eq_getElem h0];rfl
 have w:IntKind.i64.wrap ((s.aj.length:Int)-1)=((s.aj.length-1:Nat):Int):=by rw [Ba (by omega) (by omega)];omega
 rw [e,w];exact⟨AL h0,List.getElem_mem h0⟩
theorem KA {t:Ad} {n:Af} (h:B8 t n=true): ∃x,EO t n x∧BD t n=x.aq∧0≤x.aq∧x.aq≤3∧A0 t=true:=by
 obtain⟨x,hx,_⟩:=Yd h;have hg:A0 t=true:=by unfold B8 at h;simp only [Ae]at h;exact h.1
 have:=(jX hg).o0 x (tH hx.at_);exact⟨x,hx,zEV hx,this.1,this.2,hg⟩
theorem zHl {s:Aq} (hS:DK s) (h1:1≤s.aj.length) (h4:s.aj.length≤4): ∃sw,SW s=some sw∧(sw=true↔(∀t∈s.aj,B8 t s.ae=true)∧s.aj=D8 s):=by
 unfold SW;obtain⟨e0,m0⟩:=Kv h1;obtain⟨e1,m1⟩:=sN h1 h4;have S0:=hS.way _ m0;have S1:=hS.way _ m1;rw [Ir,Aa,if_pos (Ca.2 ⟨by omega,by omega⟩),e0,Aa,Qq S0,Aa];have no: ∀{t:Ad},t∈s.aj→B8 t s.ae≠true→(false=true↔(∀t∈s.aj,B8 t s.ae=true)∧s.aj=D8 s):=fun ht hn=>⟨by simp,fun h=>absurd (h.1 _ ht) hn⟩
 by_cases g0:A0 (AN s)=true
 ·rw [if_pos g0,Jz S0,Aa];by_cases k0:BH (fun x:Au=>x.ae==s.ae) (AN s).ah<0
  ·rw [if_pos (by simpa using k0)];exact⟨_,rfl,no m0 (by unfold B8;intro hq;rw [Ae,decide_eq_true_eq]at hq;omega)⟩
  ·rw [if_neg (by simpa using k0),e1,Aa,Qq S1,Aa];by_cases g1:A0 (Ip s)=true
   ·rw [if_pos g1,Jz S1,Aa];by_cases k1:BH (fun x:Au=>x.ae==s.ae) (Ip s).ah<0
    ·rw [if_pos (by simpa using k1)];exact⟨_,rfl,no m1 (by unfold B8;intro hq;rw [Ae,decide_eq_true_eq]at hq;omega)⟩
    ·rw [if_neg (by simpa using k1),Aa];have H0:B8 (AN s) s.ae=true:=by unfold B8;simp only [Ae,decide_eq_true_eq];exact⟨g0,by omega⟩
     have H1:B8 (Ip s) s.ae=true:=by unfold B8;simp only [Ae,decide_eq_true_eq];exact⟨g1,by omega⟩
     obtain⟨x,hx,sx,x0,x3,_⟩:=KA H0;obtain⟨y,hy,sy,y0,y3,_⟩:=KA H1;rw [hy.at_,Aa,zGn S0 hx x0 x3 y0 y3,Aa];have hW:way (AN s) (BH (fun y:Au=>y.ae==s.ae) (AN s).ah) x.aq y.aq=D8 s:=by unfold D8 Cj;rw [sx,sy]
     rw [hW];have hM:=zHH (t:=AN s) (k:=Cj (AN s) s.ae) (a:=BD (AN s) s.ae) (b:=BD (Ip s) s.ae) S0 (jX g0) (by omega) (by omega) (by omega) (by omega);have hM: ∀w∈D8 s,w.ah.map (·.ae)=(AN s).ah.map (·.ae)∧NF w∧Dl w:=hM;by_cases hl:((D8 s).length:Int) !=(s.aj.length:Int)
     ·rw [if_pos hl];exact⟨_,rfl,by simp,fun h=>by rw [←h.2]at hl;simp at hl⟩
     ·rw [if_neg hl];have BL:(D8 s).length=s.aj.length:=by
       have:((D8 s).length:Int)=(s.aj.length:Int):=by simpa using hl
       omega
      rw [Tj (xs:=D8 s) (ys:=s.aj) BL (fun w y=>A0 y&&Ix w y) false (some true) ?_ ?_]
      ·have z1:=QA (p:=Ix) (f:=id) (fun x y=>Tx) BL;rw [List.map_id,List.map_id]at z1;have z2:((D8 s).zip s.aj).all (fun z=>A0 z.2)=s.aj.all A0:=by
        have:=List.map_snd_zip (l₁:=D8 s) (l₂:=s.aj) (by omega)
        conv=>rhs;rw [←this]
        rw [List.all_map];rfl
       have z3:(((D8 s).zip s.aj).all fun z=>A0 z.2&&Ix z.1 z.2)=(s.aj.all A0&&((D8 s).zip s.aj).all fun z=>Ix z.1 z.2):=by rw [←z2];rw [Bool.eq_iff_iff];simp only [AK,Ae];exact⟨fun h=>⟨fun z hz=>(h z hz).1,fun z hz=>(h z hz).2⟩,fun h z hz=>⟨h.1 z hz,h.2 z hz⟩⟩
       have key:(((D8 s).zip s.aj).all fun z=>A0 z.2&&Ix z.1 z.2)=true↔(∀t∈s.aj,B8 t s.ae=true)∧s.aj=D8 s:=by
        rw [z3,Ae,z1];constructor
        ·rintro⟨a1,a2⟩;refine⟨fun t ht=> ?_,a2.symm⟩;have q1:=AK.1 a1 t ht;rw [←a2]at ht;have q2:=zyE (n:=s.ae) (hM t ht).1;unfold B8 at H0 ⊢;simp only [Ae]at H0 ⊢;exact⟨q1,by rw [q2];exact H0.2⟩
        ·rintro⟨a1,a2⟩;exact⟨AK.2 fun t ht=>by have:=a1 t ht;unfold B8 at this;simp only [Ae]at this;exact this.1,a2.symm⟩
       by_cases hz:(((D8 s).zip s.aj).all fun z=>A0 z.2&&Ix z.1 z.2)=true
       ·rw [if_pos hz];exact⟨_,rfl,fun _=>key.1 hz,fun _=>rfl⟩
       ·rw [if_neg hz];exact⟨_,rfl,by simp,fun h=>absurd (key.2 h) hz⟩
      ·intro i hi hj;show V2 s (D8 s) i=_;unfold V2;have Sj:=hS.way _ (List.getElem_mem hj);obtain⟨_,Ti,Si⟩:=hM _ (List.getElem_mem hi);rw [if_pos (by simpa using hi),AL hj,Aa,Qq Sj,Aa];by_cases gj:A0 s.aj[i]=true
       ·rw [if_pos gj,AL hi,Aa];obtain⟨r,er,fr⟩:=zBH (a:=(D8 s)[i]) (b:=s.aj[i]) Si;rw [er,Aa];by_cases hr:r=true
        ·rw [if_pos hr];obtain⟨c1,c2,c3⟩:=fr.1 hr;have c4:=congrArg List.length c3;simp only [List.length_map]at c4;obtain⟨v,ev,fv⟩:=zJZ Ti (jX gj) c4;rw [ev,Aa,Bi hi (by omega)];by_cases hv:v=0
         ·have:=Tx.2 (rP c1 c2 (tE c3 (fv.1 hv)));rw [if_neg (by simp [hv]),if_pos (by rw [gj,this];rfl)]
         ·rw [if_pos (by simpa using hv),if_neg (by simp only [Ae,not_and];intro _ h;rw [Tx.1 h]at fv;exact hv (fv.2 rfl))]
        ·rw [if_neg hr,if_neg (by simp only [Ae,not_and];intro _ h;rw [Tx.1 h]at fr;exact hr (fr.2 ⟨rfl,rfl,rfl⟩))]
       ·rw [if_neg gj,if_neg (by simp [gj])]
      ·show V2 s (D8 s) (D8 s).length=_;unfold V2;rw [if_neg (by simp)]
   ·rw [if_neg g1];exact⟨_,rfl,no m1 (by unfold B8;simp [g1])⟩
 ·rw [if_neg g0];exact⟨_,rfl,no m0 (by unfold B8;simp [g0])⟩
theorem zHQ {xs:List Int} {a b:Int} (h:xs.length≤2000000):bC xs a b=some (xs.all fun y=>BQ y a b):=by
 unfold bC;have h1:=cT (xs:=xs) (body:=fun s:Int=>SH xs a b s) (fun i (_:Unit)=>i) (fun y _=>some (if BQ y a b=true then .inl ()else .inr (some false))) (fun _=>some true)
  (fun i hi s=>by
   show SH xs a b i=_;unfold SH;rw [if_pos (by simpa using hi),AL hi,Aa,Ir,Aa,Bi hi (by omega)];cases BQ xs[i] a b<;>simp [MQ]) (fun s=>by
   show SH xs a b xs.length=_;unfold SH;rw [if_neg (by simp)]) ()
 rw [tQ (fun y=>BQ y a b) false fun x _ s=>rfl]at h1;refine h1.trans ?_;cases(xs.all fun y=>BQ y a b)<;>rfl
def BN (s:Aq):Prop:=1≤s.aj.length∧s.aj.length≤4∧(∀t∈s.aj,B8 t s.ae=true)∧s.aj=D8 s∧BQ s.bp.length 1 3=true∧(∀y∈s.bp,0≤y∧y≤(s.aj.length:Int)-1)∧B0 s.ao=true
theorem zZ {s:Aq}:(s.bp.all fun y=>BQ y 0 ((s.aj.length:Int)-1))=true↔ ∀y∈s.bp,0≤y∧y≤(s.aj.length:Int)-1:=by rw [AK];exact⟨fun h y hy=>Ca.1 (h y hy),fun h y hy=>Ca.2 (h y hy)⟩
theorem tR {s:Aq} (hS:DK s): ∃g,Sr s=some g∧(g=true↔BN s):=by
 unfold Sr;by_cases h:1≤s.aj.length∧s.aj.length≤4
 ·obtain⟨sw,e,f⟩:=zHl hS h.1 h.2;rw [e,Aa];have w:IntKind.i64.wrap ((s.aj.length:Int)-1)=(s.aj.length:Int)-1:=Ba (by omega) (by omega);by_cases hw:sw=true
  ·rw [if_pos hw,Ir,Aa];by_cases h2:BQ s.bp.length 1 3=true
   ·rw [if_pos h2,w,zHQ hS.at_,Aa];by_cases h3:(s.bp.all fun y=>BQ y 0 ((s.aj.length:Int)-1))=true
    ·rw [if_pos h3,Qw hS.store,Aa];exact⟨_,rfl,fun h5=>⟨h.1,h.2,(f.1 hw).1,(f.1 hw).2,h2,zZ.1 h3,h5⟩,fun h5=>h5.2.2.2.2.2.2⟩
    ·rw [if_neg h3];exact⟨_,rfl,by simp,fun h5=>absurd (zZ.2 h5.2.2.2.2.2.1) h3⟩
   ·rw [if_neg h2];exact⟨_,rfl,by simp,fun h5=>absurd h5.2.2.2.2.1 h2⟩
  ·rw [if_neg hw];exact⟨_,rfl,by simp,fun h5=>absurd (f.2 ⟨h5.2.2.1,h5.2.2.2.1⟩) hw⟩
 ·have e:SW s=some false:=by
   unfold SW;rw [Ir,Aa,if_neg (by rw [Ca];omega)]
  rw [e,Aa,if_neg (by simp)];exact⟨_,rfl,by simp,fun h5=>absurd ⟨h5.1,h5.2.1⟩ h⟩
theorem zDn {xs ys:List Ad} (h: ∀t∈xs,Dl t) (hl:xs.length≤2000000): ∃r,YI xs ys (fun a b=>NN a b)=some r∧(r=true↔xs=ys):=by
 unfold YI;by_cases h3:((xs.length:Int) !=(ys.length:Int))=true
 ·rw [if_pos h3];exact⟨_,rfl,by simp,fun h=>by rw [h]at h3;simp at h3⟩
 ·rw [if_neg h3];have T4:xs.length=ys.length:=by
   have:(xs.length:Int)=ys.length:=by simpa using h3
   omega
  rw [Tj (xs:=xs) (ys:=ys) T4 Ix false (some true) ?_ ?_]
  ·have z1:=QA (p:=Ix) (f:=id) (fun x y=>Tx) T4;rw [List.map_id,List.map_id]at z1;rw [←z1];cases((xs.zip ys).all fun z=>Ix z.1 z.2)<;>exact⟨_,rfl,by simp⟩
  ·intro i CK G1;show Vs xs ys (fun a b=>NN a b) i=_;unfold Vs;rw [if_pos (by simpa using CK),AL CK,Aa,AL G1,Aa,Bi CK (by omega)];dsimp only;rw [zFg (h _ (List.getElem_mem CK)),Aa];cases Ix xs[i] ys[i]<;>rfl
  ·show Vs xs ys (fun a b=>NN a b) xs.length=_;unfold Vs;rw [if_neg (by simp)]
theorem dJ {s:Aq} {t:Ad} {x:Au} (h:Dl t) (hx:EO t s.ae x):Kn s t=some x.aq:=by unfold Kn NQ;rw [Xs h,Aa,hx.at_,Aa,Aa]
theorem tO {s:Aq} (hS:DK s): ∃g,P1 s=some g∧(g=true↔BN s):=by
 unfold P1;rw [Ld,Aa];by_cases hb:BQ s.aj.length 1 4=true
 ·have h:=Ca.1 hb;rw [if_pos hb,Ld,Aa];by_cases h2:BQ s.bp.length 1 3=true
  ·rw [if_pos h2,zG0 hS.store,Aa];by_cases h3:B0 s.ao=true
   ·rw [if_neg (by simp [h3]),Qz (fun t=> !B8 t s.ae) (fun t ht=>by unfold nF;rw [zHo (hS.way t ht),Aa]) (by omega),Aa];by_cases h4:(s.aj.any fun t=> !B8 t s.ae)=true
    ·rw [if_pos h4];refine⟨_,rfl,by simp,fun h5=> ?_⟩;obtain⟨t,ht,hn⟩:=List.any_eq_true.1 h4;rw [h5.2.2.1 t ht]at hn;simp at hn
    ·have hA: ∀t∈s.aj,B8 t s.ae=true:=fun t ht=>by
      cases hq:B8 t s.ae with
      |true=>rfl
      |false=>exact absurd (List.any_eq_true.2 ⟨t,ht,by simp [hq]⟩) h4
     have w:IntKind.i64.wrap ((s.aj.length:Int)-1)=(s.aj.length:Int)-1:=Ba (by omega) (by omega);have OM:=hS.at_;rw [if_neg h4,Qz (fun y=> !BQ y 0 ((s.aj.length:Int)-1)) (fun y hy=>by unfold nH;rw [w,Ld,Aa]) (by omega),Aa];by_cases h5:(s.bp.any fun y=> !BQ y 0 ((s.aj.length:Int)-1))=true
     ·rw [if_pos h5];refine⟨_,rfl,by simp,fun h6=> ?_⟩;obtain⟨y,hy,hn⟩:=List.any_eq_true.1 h5;rw [Ca.2 (h6.2.2.2.2.2.1 y hy)]at hn;simp at hn
     ·have hB: ∀y∈s.bp,0≤y∧y≤(s.aj.length:Int)-1:=fun y hy=>by
       cases hq:BQ y 0 ((s.aj.length:Int)-1)with
       |true=>exact Ca.1 hq
       |false=>exact absurd (List.any_eq_true.2 ⟨y,hy,by simp [hq]⟩) h5
      obtain⟨e0,m0⟩:=Kv (s:=s) (by omega);obtain⟨e1,m1⟩:=sN (s:=s) (by omega) (by omega);obtain⟨x,hx,sx,x0,x3,_⟩:=KA (hA _ m0);obtain⟨y,hy,sy,y0,y3,_⟩:=KA (hA _ m1);rw [if_neg h5,e0,Aa,e1,Aa,dJ (hS.way _ m1) hy,Aa,zIM (hS.way _ m0) hx x0 x3 y0 y3,Aa];have hW:way (AN s) (BH (fun y:Au=>y.ae==s.ae) (AN s).ah) x.aq y.aq=D8 s:=by unfold D8 Cj;rw [sx,sy]
      rw [hW];obtain⟨r,er,fr⟩:=zDn (xs:=s.aj) (ys:=D8 s) hS.way hS.ways;rw [er,Aa];exact⟨_,rfl,fun hr=>⟨by omega,by omega,hA,fr.1 hr,h2,hB,h3⟩,fun h6=>fr.2 h6.2.2.2.1⟩
   ·rw [if_pos (by simp [h3])];exact⟨_,rfl,by simp,fun h5=>absurd h5.2.2.2.2.2.2 h3⟩
  ·rw [if_neg h2];exact⟨_,rfl,by simp,fun h5=>absurd h5.2.2.2.2.1 h2⟩
 ·rw [if_neg hb];exact⟨_,rfl,by simp,fun h5=>absurd (Ca.2 ⟨by have:=h5.1;omega,by have:=h5.2.1;omega⟩) hb⟩
def Dx (t:Ad) (n:Af):Au:=(t.ah[(Cj t n).toNat]?).getD ⟨[],0,0⟩
theorem zY {t:Ad} {n:Af} {x:Au} (h:EO t n x):Dx t n=x:=by unfold Dx Cj;rw [(Ok h.at_).2.1];rfl
def CS (s:Aq):List Int:=s.bp.map fun y=>BD ((getI s.aj y).getD Nt) s.ae
def GR (s:Aq):Bool:=holds (AN s) s.ae (Dx (AN s) s.ae) (Hh (CS s)) s.ao
theorem dC {s:Aq} (hS:DK s) (hg:BN s):SF s=some (GR s)∧R1 s=some (GR s):=by
 obtain⟨h1,h4,hA,_,h3,hB,hR⟩:=hg;have h3:=Ca.1 h3;obtain⟨e0,m0⟩:=Kv (s:=s) h1;obtain⟨x,hx,k1,k2,k3⟩:=Yd (hA _ m0);have hT:=zHa hR;have hW:=hS.store;have AZ: ∀y∈s.bp,∃tb x,getI s.aj y=some tb∧tb∈s.aj∧EO tb s.ae x∧BD tb s.ae=x.aq:=fun y hy=>by obtain⟨tb,q1,q2,_⟩:=IX (hB y hy).1 (by have:=(hB y hy).2;omega:y<s.aj.length);obtain⟨x,q3,q4,_⟩:=KA (hA tb q2);exact⟨tb,x,q1,q2,q3,q4⟩
 let st:List Int:=s.bp.map fun y=>BD ((getI s.aj y).getD Nt) s.ae;have hn:st.length=s.bp.length:=by simp [st]
 have hl:st.length≤2000000:=by have:=hS.at_;omega
 have n1:=yJ (s:=s) (st:=st) hn hl fun i hi=>by
  have EJ:i<s.bp.length:=by omega
  obtain⟨tb,x,q1,q2,q3,q4⟩:=AZ _ (List.getElem_mem EJ);refine⟨s.bp[i],tb,_,x,AL EJ,q1,Jz (hS.way _ q2),q3.at_, ?_⟩;simp only [st,List.getElem_map,q1,Option.getD_some,q4]
 have n2:=zHs (s:=s) (st:=st) hn hl fun i hi=>by
  have EJ:i<s.bp.length:=by omega
  obtain⟨tb,x,q1,q2,q3,q4⟩:=AZ _ (List.getElem_mem EJ);refine⟨tb, ?_, ?_⟩
  ·unfold GN;rw [AL EJ,Aa,q1,Aa]
  ·rw [dJ (hS.way _ q2) q3];simp only [st,List.getElem_map,q1,Option.getD_some,q4]
 unfold SF R1;have S0:=hS.way _ m0;have Q7:=hS.name;have Gt:P5 (AN s) s.ae s.ao=some true:=by rw [zFy S0 hW];unfold kK;rw [hA _ m0,hR];rfl
 rw [e0,Aa,Aa,n1,n2,Aa,Aa,zFQ S0 (by omega) Q7 hx hW.1 hT Gt,zFH S0 k1 Q7 k3 hx hW.1 hT];unfold GR;rw [zY hx];exact⟨rfl,rfl⟩
theorem zDt {s:Aq} (hS:DK s) (hg:BN s): ∃r,SF s=some r∧R1 s=some r:=⟨_,dC hS hg⟩
def Xw (t:Ad) (n:Af) (st:List Ac):Prop:= ∀w∈st,C6 t n w.af=false
def MS (t:Ad) (n:Af) (x:Au) (st:List Ac):Prop:= ∀w∈st,C6 t n w.af=true→ ∃q∈st,Cq t q=true∧w.af=Bv t n x.bj (B6 q)
def MR (t:Ad) (n:Af) (x:Au) (st:List Ac):Prop:= ∀q∈st,Cq t q=true→ ∃w∈st,w.af=Bv t n x.bj (B6 q)
structure Fp (t:Ad) (a:Bb):Prop where
 tab:A0 t=true
 old:a.ak≠1→Be t a.bq=true
 new:a.ak≠2→Be t a.bz=true
 kind:a.ak=1∨a.ak=2∨a.ak=3
 same:a.ak=3→Db a.bq 0=Db a.bz 0
structure Fo (t:Ad) (a:Bb) (n:Af) (x:Au):Prop extends Fp t a where
 idx:x∈t.ah
 name:x.ae=n
theorem Fo.ow {t:Ad} {a:Bb} {n:Af} {x:Au} (A:Fo t a n x):Fp t a:=⟨A.tab,A.old,A.new,A.kind,A.same⟩
theorem zHC {t:Ad} {a:Bb} (hg:A0 t=true) (h:HO t a=true):Fp t a:=by
 unfold HO at h;by_cases h1:a.ak=1
 ·rw [if_pos h1,Ae]at h;exact⟨hg,fun k=>absurd h1 k,fun _=>h.2, .inl h1,fun k=>by omega⟩
 rw [if_neg h1]at h;by_cases h2:a.ak=2
 ·rw [if_pos h2,Ae]at h;exact⟨hg,fun _=>h.1,fun k=>absurd h2 k, .inr (.inl h2),fun k=>by omega⟩
 rw [if_neg h2]at h;by_cases h3:a.ak=3
 ·rw [if_pos h3,Ae,Ae,beq_iff_eq]at h;exact⟨hg,fun _=>h.1,fun _=>h.2.1, .inr (.inr h3),fun _=>h.2.2⟩
 rw [if_neg h3]at h;cases h
theorem zI {t:Ad} {a:Bb} {n:Af} {x:Au} (hg:A0 t=true) (hx:x∈t.ah) (hn:x.ae=n) (h:HO t a=true):Fo t a n x:=⟨zHC hg h,hx,hn⟩
theorem Yg (t:Ad) (m:Af) (c:Int) (r:AE):Bv t m c r≠ []:=by unfold Bv;simp
section
variable {t:Ad} {a:Bb} (A:Fp t a)
include A
theorem Fp.ee (h:a.ak≠1) {y:Au}:E7 t a y=Bv t y.ae y.bj a.bq:=by have _:=A;unfold E7;rw [if_neg h]
theorem Fp.dv (h:a.ak≠2) {y:Au}:Eb t a y=Bv t y.ae y.bj a.bz:=by have _:=A;unfold Eb;rw [if_neg h]
theorem Fp.eo {y:Au} {w:Ac} (hw:w∈GU t a y):(w=⟨E7 t a y, [],true⟩∧a.ak≠1∧E7 t a y≠Eb t a y∧y.aq≥1)∨(w=⟨Eb t a y, [],false⟩∧a.ak≠2∧y.aq≥2):=by
 have _:=A;unfold GU at hw;rcases Ai.1 hw with hw|hw
 ·split at hw
  ·rename_i h;rw [List.mem_singleton]at hw;refine .inl ⟨hw,fun k=> ?_,h.2.1,h.2.2⟩;apply h.1;unfold E7;rw [if_pos k]
  ·simp at hw
 ·split at hw
  ·rename_i h;rw [List.mem_singleton]at hw;refine .inr ⟨hw,fun k=> ?_,h.2⟩;apply h.1;unfold Eb;rw [if_pos k]
  ·simp at hw
theorem Fp.dk {n:Af} {y:Au} (hy:y∈t.ah) {w:Ac} (hw:w∈GU t a y): ∃r,Be t r=true∧w.af=Bv t y.ae y.bj r∧C6 t n w.af=decide (y.ae=n):=by
 have hc:=Ca.1 (EA A.tab hy).2;have hl:=(EA A.tab hy).1;rcases A.eo hw with⟨rfl,h,_⟩|⟨rfl,h,_⟩
 ·refine⟨a.bq,A.old h,A.ee h, ?_⟩;show C6 t n (E7 t a y)=_;rw [A.ee h];exact Qk A.tab hl (A.old h) (by omega) hc.2
 ·refine⟨a.bz,A.new h,A.dv h, ?_⟩;show C6 t n (Eb t a y)=_;rw [A.dv h];exact Qk A.tab hl (A.new h) (by omega) hc.2
theorem Fp.gz {w:Ac} (hw:w∈It t a): ∃r,Be t r=true∧w.af=(AR t r).af:=by
 unfold It at hw;split at hw
 ·rename_i h;rw [List.mem_singleton]at hw;subst hw;exact⟨a.bz,A.new (by omega),rfl⟩
 ·rename_i h;split at hw
  ·rw [List.mem_singleton]at hw;subst hw;exact⟨a.bq,A.old h,rfl⟩
  ·rw [List.mem_singleton]at hw;subst hw;exact⟨a.bq,A.old h,rfl⟩
theorem Fp.ie {w:Ac} (hw:w∈D9 t a):w∈It t a∨ ∃y∈t.ah,w∈GU t a y:=by
 have _:=A;unfold D9 at hw;rcases Ai.1 hw with h|h
 ·exact .inl h
 ·exact .inr (List.mem_flatMap.1 h)
theorem Fp.jv (h:a.ak≠2):AR t a.bz∈D9 t a:=by
 refine Ai.2 (.inl ?_);unfold It;rcases A.kind with k|k|k
 ·rw [if_pos k];exact List.mem_singleton.2 rfl
 ·exact absurd k h
 ·rw [if_neg (by omega),if_neg (by omega),List.mem_singleton,IV,A.same k,←IV];rfl
theorem Fp.ea {w:Ac} (hw:w∈D9 t a) (hr:Cq t w=true):w=AR t a.bz∧a.ak≠2:=by
 obtain⟨Ef,Gi⟩:=Fy hr;rcases A.ie hw with h|⟨y,hy,h⟩
 ·unfold It at h;rcases A.kind with k|k|k
  ·rw [if_pos k,List.mem_singleton]at h;exact⟨h,by omega⟩
  ·rw [if_neg (by omega),if_pos k,List.mem_singleton]at h;have:w.bh=true:=by rw [h]
   rw [Gi]at this;cases this
  ·rw [if_neg (by omega),if_neg (by omega),List.mem_singleton,IV,A.same k,←IV]at h;exact⟨h,by omega⟩
 ·obtain⟨r,OX,e,_⟩:=A.dk (n:= []) hy h;rw [Gi]at e;exact absurd e (Wr A.tab (EA A.tab hy).1 Ef OX)
theorem Fp.gn {w q:Ac} (hw:w∈D9 t a) (hq:Cq t q=true) (e:w.af=q.af):w∈It t a:=by
 obtain⟨Ef,Gi⟩:=Fy hq;rcases A.ie hw with h|⟨y,hy,h⟩
 ·exact h
 ·obtain⟨r,OX,e2,_⟩:=A.dk (n:= []) hy h;rw [e,Gi]at e2;exact absurd e2 (Wr A.tab (EA A.tab hy).1 Ef OX)
theorem Fp.gf (h:a.ak≠1) {w:Ac} (hw:w∈It t a):w.af=(AR t a.bq).af:=by have _:=A;unfold It at hw;rw [if_neg h]at hw;split at hw<;>(rw [List.mem_singleton]at hw;rw [hw])
theorem Fp.fc (h:a.ak≠1): ∃w∈D9 t a,w.af=(AR t a.bq).af:=by have _:=A;unfold D9 It;rw [if_neg h];split<;>exact⟨_,Ai.2 (.inl (List.mem_singleton.2 rfl)),rfl⟩
theorem Fp.gy (h:a.ak=1) {w:Ac} (hw:w∈It t a):w.af=(AR t a.bz).af:=by have _:=A;unfold It at hw;rw [if_pos h,List.mem_singleton]at hw;rw [hw]
end
section
variable {t:Ad} {a:Bb} {n:Af} {x:Au} (A:Fo t a n x)
include A
theorem Fo.j9:CH n 1=true:=by rw [←A.name];exact(EA A.tab A.idx).1
theorem Fo.lr:1≤x.bj∧x.bj≤(t.ar.length:Int)-1:=Ca.1 (EA A.tab A.idx).2
theorem Fo.ig {w:Ac} (hw:w∈GU t a x):w∈D9 t a:=by unfold D9;exact Ai.2 (.inr (List.mem_flatMap.2 ⟨x,A.idx,hw⟩))
theorem Fo.dh {w:Ac} (hw:w∈D9 t a) (he:C6 t n w.af=true):w∈GU t a x:=by
 rcases A.ie hw with h|⟨y,hy,h⟩
 ·obtain⟨r,hr,e⟩:=A.gz h;rw [e,zx2 A.tab hr]at he;cases he
 ·obtain⟨r,_,_,e⟩:=A.dk (n:=n) hy h;rw [e,decide_eq_true_eq]at he;have:y=x:=(s9 A.tab).gu hy A.idx (he.trans A.name.symm);rw [←this];exact h
variable {st st':List Ac} (hB:QI t a st st')
include hB
theorem Fo.j6 (hs:x.aq≤1) (h:Xw t n st):Xw t n st':=by
 intro y hy;cases he:C6 t n y.af with
 |false=>rfl
 |true=>
  obtain⟨Ds,h1|h1⟩:=(hB y).1 hy
  ·rcases A.eo (A.dh h1 he)with⟨e,_⟩|⟨_,_,k⟩
   ·rw [e]at Ds;cases Ds
   ·omega
  ·rw [h y h1.1]at he;cases he
theorem Fo.fj (hr:Dc st) (hA:Yr t a st) (hs:1≤x.aq) (h:MS t n x st):MS t n x st':=by
 have A2:a.ak≠2→ ∃q∈st',Cq t q=true∧B6 q=a.bz:=fun k=>
  ⟨AR t a.bz,(hB _).2 ⟨rfl, .inl (A.jv k)⟩,jP A.tab (A.new k),Tt A.tab (A.new k)⟩
 intro y hy he;obtain⟨Ds,h1|⟨h1,h2⟩⟩:=(hB y).1 hy
 ·rcases A.eo (A.dh h1 he)with⟨e,_⟩|⟨e,k,_⟩
  ·rw [e]at Ds;cases Ds
  ·obtain⟨q,q1,q2,q3⟩:=A2 k;refine⟨q,q1,q2, ?_⟩;rw [q3,e];show Eb t a x=_;rw [A.dv k,A.name]
 ·obtain⟨q,q1,q2,q3⟩:=h y h1 he;obtain⟨Ef,Gi⟩:=Fy q2;by_cases ho: ∀w∈D9 t a,w.af≠q.af
  ·exact⟨q,(hB q).2 ⟨by rw [Gi];rfl, .inr ⟨q1,ho⟩⟩,q2,q3⟩
  ·have⟨w,hw,e⟩: ∃w∈D9 t a,w.af=q.af:=by
    apply Classical.byContradiction;intro hc;exact ho fun w hw e=>hc ⟨w,hw,e⟩
   have Ps:=A.gn hw q2 e;by_cases k1:a.ak=1
   ·exact absurd (e.symm.trans (A.gy k1 Ps)) (hA.1 k1 q q1)
   ·have hq:q=AR t a.bq:=El.gu (key:=fun w:Ac=>w.af) hr q1 (hA.2 k1) (e.symm.trans (A.gf k1 Ps));have HH:y.af=E7 t a x:=by
     rw [q3,hq,Tt A.tab (A.old k1),A.ee k1,A.name]
    have J5:E7 t a x=Eb t a x:=by
     apply Classical.byContradiction;intro hc;have hm:(⟨E7 t a x, [],true⟩:Ac)∈GU t a x:=by unfold GU;rw [if_pos ⟨by rw [A.ee k1];exact Yg _ _ _ _,hc,hs⟩];simp
     exact h2 _ (A.ig hm) HH.symm
    have k2:a.ak≠2:=by
     intro k;have:Eb t a x= []:=by unfold Eb;rw [if_pos k]
     rw [this,A.ee k1]at J5;exact Yg _ _ _ _ J5
    obtain⟨p,p1,p2,p3⟩:=A2 k2;refine⟨p,p1,p2, ?_⟩;rw [p3,HH,J5,A.dv k2,A.name]
theorem Fo.jr (hn: ∀w∈st,w.bh=false) (hs:2≤x.aq) (h:MR t n x st):MR t n x st':=by
 intro q hq hr;obtain⟨Ef,Gi⟩:=Fy hr;obtain⟨Ds,h1|⟨h1,h2⟩⟩:=(hB q).1 hq
 ·obtain⟨e,k⟩:=A.ea h1 hr;have hm:(⟨Eb t a x, [],false⟩:Ac)∈GU t a x:=by
   unfold GU;refine Ai.2 (.inr ?_);rw [if_pos ⟨by rw [A.dv k];exact Yg _ _ _ _,hs⟩];simp
  refine⟨_,(hB _).2 ⟨rfl, .inl (A.ig hm)⟩, ?_⟩;show Eb t a x=_;rw [e,Tt A.tab (A.new k),A.dv k,A.name]
 ·obtain⟨w,w1,w2⟩:=h q h1 hr;by_cases ho: ∀z∈D9 t a,z.af≠w.af
  ·exact⟨w,(hB w).2 ⟨hn w w1, .inr ⟨w1,ho⟩⟩,w2⟩
  ·have⟨z,hz,e⟩: ∃z∈D9 t a,z.af=w.af:=by
    apply Classical.byContradiction;intro hc;exact ho fun z hz e=>hc ⟨z,hz,e⟩
   have he:C6 t n z.af=true:=by rw [e,w2,Qk A.tab A.j9 Ef (by have:=A.lr;omega) A.lr.2];simp
   rcases A.eo (A.dh hz he)with⟨e1,k1,_⟩|⟨e1,k2,_⟩
   ·exfalso;have hk:Bv t n x.bj a.bq=Bv t n x.bj (B6 q):=by
     have:z.af=E7 t a x:=by rw [e1]
     rw [e,w2,A.ee k1,A.name]at this;exact this.symm
    have hp:=ztU A.tab A.j9 (A.old k1) Ef hk;obtain⟨u,u1,u2⟩:=A.fc k1;apply h2 u u1;rw [u2,Gi,IV,IV,hp]
   ·exact⟨z,(hB z).2 ⟨by rw [e1], .inl hz⟩,e.trans w2⟩
end
theorem cD {t:Ad} {n:Af} {x:Au} {st:List Ac}:holds t n x 0 st=true↔Xw t n st:=by
 unfold holds Bg Xw;rw [if_pos (by rfl)];simp only [List.length_map,beq_iff_eq];constructor
 ·intro h w hw;have h0:(st.filter fun w=>C6 t n w.af)= []:=List.eq_nil_of_length_eq_zero (by omega);have:=List.filter_eq_nil_iff.1 h0 w hw;simpa using this
 ·intro h;rw [List.filter_eq_nil_iff.2 fun w hw=>by rw [h w hw];simp];rfl
theorem WS {a b:List Af}:((less a b).length:Int)=0↔ ∀k∈a,k∈b:=by
 unfold less;constructor
 ·intro h k hk;have h0:(a.filter fun k=> !b.contains k)= []:=List.eq_nil_of_length_eq_zero (by omega);have:=List.filter_eq_nil_iff.1 h0 k hk;simpa using this
 ·intro h;rw [List.filter_eq_nil_iff.2 fun k hk=>by simpa using h k hk];rfl
theorem Qg {t:Ad} {n:Af} {x:Au} {st:List Ac} {k:Af}:k∈wanted t n x st↔ ∃q∈st,Cq t q=true∧k=Bv t n x.bj (B6 q):=by
 unfold wanted rows;simp only [List.mem_map,List.mem_filter];constructor
 ·rintro⟨r,⟨q,⟨h1,h2⟩,rfl⟩,rfl⟩;exact⟨q,h1,h2,rfl⟩
 ·rintro⟨q,h1,h2,rfl⟩;exact⟨_,⟨q,⟨h1,h2⟩,rfl⟩,rfl⟩
theorem GO {t:Ad} {n:Af} {st:List Ac} {k:Af}:k∈Bg t n st↔ ∃w∈st,C6 t n w.af=true∧k=w.af:=by
 unfold Bg;simp only [List.mem_map,List.mem_filter];constructor
 ·rintro⟨w,⟨h1,h2⟩,rfl⟩;exact⟨w,h1,h2,rfl⟩
 ·rintro⟨w,h1,h2,rfl⟩;exact⟨w,⟨h1,h2⟩,rfl⟩
theorem uF {t:Ad} {n:Af} {x:Au} {st:List Ac}:(∀k∈Bg t n st,k∈wanted t n x st)↔MS t n x st:=by
 constructor
 ·intro h w hw he;exact Qg.1 (h w.af (GO.2 ⟨w,hw,he,rfl⟩))
 ·intro h k hk;obtain⟨w,hw,he,rfl⟩:=GO.1 hk;exact Qg.2 (h w hw he)
theorem Tg {t:Ad} {n:Af} {x:Au} {st:List Ac}:holds t n x 1 st=true↔MS t n x st:=by rw [←uF,←WS];unfold holds;rw [if_neg (by decide)];simp
theorem zG7 {t:Ad} {a:Bb} {n:Af} {x:Au} {st:List Ac} (A:Fo t a n x):(∀k∈wanted t n x st,k∈Bg t n st)↔MR t n x st:=by
 constructor
 ·intro h q hq hr;obtain⟨w,hw,_,e⟩:=GO.1 (h _ (Qg.2 ⟨q,hq,hr,rfl⟩));exact⟨w,hw,e.symm⟩
 ·intro h k hk;obtain⟨q,hq,hr,rfl⟩:=Qg.1 hk;obtain⟨w,hw,e⟩:=h q hq hr;refine GO.2 ⟨w,hw, ?_,e.symm⟩;rw [e,Qk A.tab A.j9 (Fy hr).1 (by have:=A.lr;omega) A.lr.2];simp
theorem zx1 {t:Ad} {a:Bb} {n:Af} {x:Au} {st:List Ac} (A:Fo t a n x):holds t n x 2 st=true↔MS t n x st∧MR t n x st:=by rw [←uF,←zG7 A,←WS,←WS];unfold holds;rw [if_neg (by decide)];simp
theorem zJM {t:Ad} {a:Bb} {n:Af} {x:Au} {st st':List Ac} {low:Int} (A:Fo t a n x) (hg:B0 st=true) (hA:Yr t a st) (hB:QI t a st st')
  (hl:low=0∧x.aq≤1∨low=1∧1≤x.aq∨low=2∧2≤x.aq) (h:holds t n x low st=true):holds t n x low st'=true:=by
 obtain⟨hr,hn⟩:=Ei hg;rcases hl with⟨rfl,hs⟩|⟨rfl,hs⟩|⟨rfl,hs⟩
 ·exact cD.2 (A.j6 hB hs (cD.1 h))
 ·exact Tg.2 (A.fj hB hr.cf hA hs (Tg.1 h))
 ·have h2:=(zx1 A).1 h;exact(zx1 A).2 ⟨A.fj hB hr.cf hA (by omega) h2.1,A.jr hB hn hs h2.2⟩
abbrev Xr (l:List Ac):Prop:=l.Pairwise fun a b=>a.af≠b.af
theorem tL: ∀(l:List Ac) {s:List Ac},Xr l→Dc s→ ∀y,y∈l.foldl (fun o w=>Bk wk w o) s↔y∈l∨y∈s∧ ∀w∈l,w.af≠y.af
 | [],s,_,_,y=>by simp
 |x::l,s,hl,hs,y=>by
  unfold Xr at hl;rw [List.pairwise_cons]at hl;rw [List.foldl_cons,tL l hl.2 (Wx hs),Tu hs];constructor
  ·rintro(h|⟨h1|h1,h2⟩)
   ·exact .inl (by simp [h])
   ·exact .inl (by simp [h1])
   ·exact .inr ⟨h1.1,fun w hw=>by
     rcases Ag.1 hw with rfl|hw
     ·exact fun e=>h1.2 e.symm
     ·exact h2 w hw⟩
  ·rintro(h|⟨h1,h2⟩)
   ·rcases Ag.1 h with rfl|h
    ·exact .inr ⟨.inl rfl,fun w hw e=>hl.1 w hw e.symm⟩
    ·exact .inl h
   ·exact .inr ⟨.inr ⟨h1,fun e=>h2 x (by simp) e.symm⟩,fun w hw=>h2 w (by simp [hw])⟩
theorem zBq {l:List Ac} (h:Dc l):Xr l:=List.Pairwise.imp (fun h=>FF h) h
theorem zyu: ∀(l:List Ac) {s:List Ac},Dc s→Dc (l.foldl (fun o w=>Bk wk w o) s)
 | [],_,h=>h
 |_::l,_,h=>zyu l (Wx h)
theorem zFJ {t:Ad} {m n:Af} {c d:Int} {r q:AE} (hg:A0 t=true) (hm:CH m 1=true) (hn:CH n 1=true) (h:Be t r=true) (k:Be t q=true) (A3:m≠n):Bv t m c r≠Bv t n d q:=by intro e;have h1:=Tm (c:=c) hg hm h;rw [e,Tm hg hn k]at h1;simp only [List.cons.injEq]at h1;have h2:=h1.1;unfold head at h2;exact A3 (List.append_cancel_left h2).symm
theorem Fp.apart {t:Ad} {a:Bb} (A:Fp t a):Xr (D9 t a):=by
 unfold Xr D9;rw [List.pairwise_append];refine⟨?_, ?_,fun w hw z hz e=> ?_⟩
 ·unfold It;split
  ·exact List.pairwise_singleton _ _
  ·split<;>exact List.pairwise_singleton _ _
 ·rw [List.pairwise_flatMap];refine⟨fun y hy=> ?_, ?_⟩
  ·unfold GU;rw [List.pairwise_append];refine⟨?_, ?_,fun w hw z hz e=> ?_⟩
   ·split
    ·exact List.pairwise_singleton _ _
    ·exact List.Pairwise.nil
   ·split
    ·exact List.pairwise_singleton _ _
    ·exact List.Pairwise.nil
   ·split at hw
    ·rename_i h;rw [List.mem_singleton]at hw;split at hz
     ·rw [List.mem_singleton]at hz;rw [hw,hz]at e;exact h.2.1 e
     ·simp at hz
    ·simp at hw
  ·refine List.Pairwise.imp_of_mem (fun{y z} hy hz hyz w hw u hu e=> ?_) (s9 A.tab);obtain⟨r,h1,h2,_⟩:=A.dk (n:= []) hy hw;obtain⟨q,k1,k2,_⟩:=A.dk (n:= []) hz hu;rw [h2,k2]at e;exact zFJ A.tab (EA A.tab hy).1 (EA A.tab hz).1 h1 k1 (FF hyz) e
 ·obtain⟨r,h1,h2⟩:=A.gz hw;obtain⟨y,hy,hz⟩:=List.mem_flatMap.1 hz;obtain⟨q,k1,k2,_⟩:=A.dk (n:= []) hy hz;rw [h2,k2]at e;exact Wr A.tab (EA A.tab hy).1 h1 k1 e
theorem Fp.behind {t:Ad} {a:Bb} (A:Fp t a) {st:List Ac} (hr:Dc st):QI t a st (Dk st ((D9 t a).foldl (fun o w=>Bk wk w o) [])):=by
 have hw:Dc ((D9 t a).foldl (fun o w=>Bk wk w o) []):=zyu _ List.Pairwise.nil;have hm: ∀y,y∈(D9 t a).foldl (fun o w=>Bk wk w o) []↔y∈D9 t a:=fun y=>by rw [tL _ A.apart List.Pairwise.nil];simp
 intro y;unfold Dk;rw [List.mem_filter,tL _ (zBq hw) hr,hm];constructor
 ·rintro⟨h|⟨h1,h2⟩,h3⟩
  ·exact⟨by simpa using h3, .inl h⟩
  ·exact⟨by simpa using h3, .inr ⟨h1,fun w hw=>h2 w ((hm w).2 hw)⟩⟩
 ·rintro⟨h3,h|⟨h1,h2⟩⟩
  ·exact⟨.inl h,by simpa using h3⟩
  ·exact⟨.inr ⟨h1,fun w hw=>h2 w ((hm w).1 hw)⟩,by simpa using h3⟩
def Ic (o:AA):Ac:=if o.ak=3 then⟨o.af, [],true⟩else⟨o.af,o.bb,false⟩
theorem zEZ (t:Ad) (a:Bb) (x:Au):(Ha t a x).map Ic=GU t a x:=by
 unfold Ha GU Lv JE;rw [List.map_append];congr 1
 ·split<;>rfl
 ·split<;>rfl
theorem zs0 {α β:Type} (f:α→List β): ∀(xs:List α) (a:List β),xs.foldl (fun a x=>a++f x) a=a++xs.flatMap f
 | [],a=>by simp
 |x::xs,a=>by rw [List.foldl_cons,zs0 f xs,List.flatMap_cons,List.append_assoc]
theorem zzL (t:Ad) (a:Bb): ∃o rest,Ea t a=o::rest∧rest.map Ic=D9 t a∧(∀p∈rest,p.ak=2∨p.ak=3)∧
  (a.ak=1→o=⟨6,(AR t a.bz).af, [],0⟩)∧(a.ak≠1→o=⟨7,(AR t a.bq).af,(AR t a.bq).bb,0⟩):=by
 have hi: ∀p∈t.ah.flatMap (Ha t a),p.ak=2∨p.ak=3:=by
  intro p hp;obtain⟨y,_,hp⟩:=List.mem_flatMap.1 hp;unfold Ha Lv JE at hp;rcases Ai.1 hp with hp|hp
  ·split at hp
   ·rw [List.mem_singleton]at hp;subst hp;exact .inr rfl
   ·simp at hp
  ·split at hp
   ·rw [List.mem_singleton]at hp;subst hp;exact .inl rfl
   ·simp at hp
 have hw:(t.ah.flatMap (Ha t a)).map Ic=t.ah.flatMap (GU t a):=by rw [List.map_flatMap];congr 1;funext y;exact zEZ t a y
 unfold Ea D9 It;rw [zs0];unfold Lk;by_cases h1:a.ak=1
 ·rw [if_pos h1,if_pos h1];refine⟨_,_,rfl, ?_,fun p hp=> ?_,fun _=>rfl,fun k=>absurd h1 k⟩
  ·show Ic _::(t.ah.flatMap (Ha t a)).map Ic=_;rw [hw];rfl
  ·rcases Ag.1 hp with rfl|hp
   ·exact .inl rfl
   ·exact hi p hp
 ·rw [if_neg h1,if_neg h1];by_cases h2:a.ak=2
  ·rw [if_pos h2,if_pos h2];refine⟨_,_,rfl, ?_,fun p hp=> ?_,fun k=>absurd k h1,fun _=>rfl⟩
   ·show Ic _::(t.ah.flatMap (Ha t a)).map Ic=_;rw [hw];rfl
   ·rcases Ag.1 hp with rfl|hp
    ·exact .inr rfl
    ·exact hi p hp
  ·rw [if_neg h2,if_neg h2];refine⟨_,_,rfl, ?_,fun p hp=> ?_,fun k=>absurd k h1,fun _=>rfl⟩
   ·show Ic _::(t.ah.flatMap (Ha t a)).map Ic=_;rw [hw];rfl
   ·rcases Ag.1 hp with rfl|hp
    ·exact .inl rfl
    ·exact hi p hp
end Go.Proofs.YtbmbkgalkfmjdaaGreatDoor
end

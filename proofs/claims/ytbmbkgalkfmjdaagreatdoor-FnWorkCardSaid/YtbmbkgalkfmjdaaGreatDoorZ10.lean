/- Parts of a proof, joined: NS, NT, NV, NU, NH, NVG, NDA, NDB, LCG, NDC, NQS, N17, N18, N19, N20, N21, N22, NM, NN. -/
import Derived.Test.YtbmbkgalkfmjdaaGreatDoorZ9
set_option linter.unusedVariables false
set_option linter.unusedSimpArgs false
section
namespace Go.Proofs.YtbmbkgalkfmjdaaGreatDoor
open Go.RowKit
set_option maxRecDepth 100000
abbrev wk (w:Ac):Af:=w.af
theorem bV {α β:Type} {xs:List α} {body:Int→Option (Int ⊕ Option β)} (p:α→Bool) (hit:α→Option β) (fin:Option β)
  (hs: ∀(i:Nat) (hi:i<xs.length),body i=some (if p xs[i]=true then .inr (hit xs[i])else .inl ((i+1:Nat):Int))) (he:body xs.length=some (.inr fin)):
  AA body 0=match xs.find? p with|some x=>hit x|none=>fin:=by
 have key: ∀n q,q+n=xs.length→AA body (q:Nat)=match(xs.drop q).find? p with|some x=>hit x|none=>fin:=by
  intro n
  induction n with
  |zero=>
   intro q hq;have:q=xs.length:=by omega
   subst this;rw [List.drop_length];exact Dw he
  |succ n ih=>
   intro q hq;have Am:q<xs.length:=by omega
   rw [List.drop_eq_getElem_cons Am,List.find?_cons];have h1:=hs q Am;cases hp:p xs[q]with
   |true=>rw [hp,if_pos rfl]at h1;exact Dw h1
   |false=>rw [hp,if_neg (by simp)]at h1;rw [DM h1];exact ih (q+1) (by omega)
 have:=key xs.length 0 (by omega);rw [List.drop_zero]at this;exact this
def Oo (got:List BO) (k:Af):Af × Bool × Bool:=match got.find? (fun g=>g.af==k)with|some g=>(g.a7,g.dn,true)|none=>([],false,false)
def Dk (ws:List Ac) (got:List BO) (k:Af):Af × Bool × Bool:=match ws.find? (fun w=>w.af==k)with|some w=>(w.a7, !w.bh,true)|none=>Oo got k
def Dj (rows:List Ac) (k:Af):BO:=match rows.find? (fun w=>w.af==k)with|some w=>⟨k,w.a7,true⟩|none=>⟨k, [],false⟩
theorem qS {ws:List Ac} {got:List BO} {k:Af} (hw:ws.length≤2000000) (hg:got.length≤2000000):Zn ws got k=some (Dk ws got k):=by
 have h2:Zk got k=some (Oo got k):=by
  unfold Zk Oo;rw [bV (xs:=got) (body:=fun s:Int=>Sa got k s) (fun g=>g.af==k) (fun g=>some (g.a7,g.dn,true)) (some ([],false,false)) (fun i hi=>by
   show Sa got k i=_;unfold Sa;rw [if_pos (by simpa using hi),AN hi,Aa,Bl hi (by omega)];split<;>rfl) (by
   show Sa got k got.length=_;unfold Sa;rw [if_neg (by simp)])]
  cases got.find? (fun g=>g.af==k)<;>rfl
 unfold Zn Dk;rw [bV (xs:=ws) (body:=fun s:Int=>R6 ws got k s) (fun w=>w.af==k) (fun w=>some (w.a7, !w.bh,true)) (Zk got k) (fun i hi=>by
  show R6 ws got k i=_;unfold R6;rw [if_pos (by simpa using hi),AN hi,Aa,Bl hi (by omega)];split<;>rfl) (by
  show R6 ws got k ws.length=_;unfold R6;rw [if_neg (by simp)]),h2]
 cases ws.find? (fun w=>w.af==k)<;>rfl
theorem zGC {rows:List Ac} {k:Af} (hw:rows.length≤2000000):aH rows k=some (Dj rows k):=by
 unfold aH Dj;rw [bV (xs:=rows) (body:=fun s:Int=>Sm rows k s) (fun w=>w.af==k) (fun w=>some ⟨k,w.a7,true⟩) (zmL k) (fun i hi=>by
  show Sm rows k i=_;unfold Sm;rw [if_pos (by simpa using hi),AN hi,Aa,Bl hi (by omega)];split<;>rfl) (by
  show Sm rows k rows.length=_;unfold Sm;rw [if_neg (by simp)])]
 cases rows.find? (fun w=>w.af==k)<;>rfl
theorem bY {α:Type} (lt:α→Bool) (x:α) (l:List α):B4 lt (x::l)=if lt x=true then B4 lt l+1 else 0:=by unfold B4;rw [List.takeWhile_cons];split<;>rfl
theorem SY {x:Ac} {l:List Ac} (h:Da (x::l)):(∀y∈l,bl x.af y.af=true)∧Da l:=by unfold Da Ei at h;rw [List.pairwise_cons]at h;exact h
theorem zDa {l:List Ac} {k:Af} (h: ∀y∈l,bl k y.af=true):l.find? (fun w=>w.af==k)=none:=by rw [List.find?_eq_none];intro y hy;have:=FA (h y hy);simpa using fun e=>this e.symm
theorem zuT {k:Af}: ∀{l:List Ac},Da l→l.find? (fun w=>w.af==k)=match l[G9 l k]? with|some w=>if w.af=k then some w else none|none=>none
 | [],_=>by simp
 |x::l,h=>by
  obtain⟨h1,h2⟩:=SY h;have ih:=zuT (k:=k) h2;rw [G9,bY,List.find?_cons];by_cases hb:bl x.af k=true
  ·have A2:(x.af==k)=false:=by simpa using FA hb
   rw [if_pos hb,A2,List.getElem?_cons_succ];exact ih
  ·rw [if_neg hb,List.getElem?_cons_zero];by_cases he:x.af=k
   ·rw [show(x.af==k)=true by simpa using he];simp [he]
   ·rw [show(x.af==k)=false by simpa using he];simp only [he,if_false];have hk:bl k x.af=true:=Wv (by simpa using hb) he;exact zDa fun y hy=>F8 hk (h1 y hy)
theorem xW {l:List Ac} {k:Af} (hl:l.length≤2000000) (hr:Da l): ∃i:Int,(NC l k=some (i,true)∧ ∃w,getI l i=some w∧l.find? (fun w=>w.af==k)=some w)∨(NC l k=some (i,false)∧l.find? (fun w=>w.af==k)=none):=by
 refine⟨(G9 l k:Nat), ?_⟩;rw [zM hl hr,zuT hr];by_cases hp:G9 l k<l.length
 ·rw [List.getElem?_eq_getElem hp];by_cases hk:(l[G9 l k]).af=k
  ·left;simp only [hk,decide_true,if_true];exact⟨trivial,_,AN hp,rfl⟩
  ·right;simp only [hk,decide_false,if_false];exact⟨trivial,trivial⟩
 ·rw [List.getElem?_eq_none (by omega)];right;exact⟨rfl,rfl⟩
theorem zAR {ws:List Ac} {got:List BO} {k:Af} (hw:ws.length≤2000000) (hg:got.length≤2000000) (hr:Da ws):ZD k ws got=some (Dk ws got k):=by
 unfold ZD Dk;obtain⟨i,⟨e,w,e2,e3⟩|⟨e,e3⟩⟩:=xW (k:=k) hw hr
 ·rw [e,e3,Aa,if_pos rfl,e2];rfl
 ·rw [e,e3,Aa,if_neg (by simp)];unfold Oo;rw [bV (xs:=got) (body:=fun s:Int=>Sk k got s) (fun g=>g.af==k) (fun g=>some (g.a7,g.dn,true)) (some ([],false,false)) (fun i hi=>by
   show Sk k got i=_;unfold Sk;rw [if_pos (by simpa using hi),AN hi,Aa,Bl hi (by omega)];split<;>rfl) (by
   show Sk k got got.length=_;unfold Sk;rw [if_neg (by simp)])]
  cases got.find? (fun g=>g.af==k)<;>rfl
theorem zEx {rows:List Ac} {k:Af} (hw:rows.length≤2000000) (hr:Da rows):aA rows k=some (Dj rows k):=by
 unfold aA Dj;obtain⟨i,⟨e,w,e2,e3⟩|⟨e,e3⟩⟩:=xW (k:=k) hw hr
 ·rw [e,e3,Aa,if_neg (by simp),e2];rfl
 ·rw [e,e3,Aa,if_pos (by simp)]
def Ex (k:Af) (w:Ac):Bool:=bl w.af k||w.af==k
def Np (l:List Ac) (w:Ac) (q:Nat):List Ac:=
 match(if q=0 then none else l[q-1]?)with
 |some y=>if y.af=w.af then l.set (q-1) w else l.take q++ [w]++l.drop q
 |none=>l.take q++ [w]++l.drop q
theorem zB3 {w:Af} {l:List Ac} (h: ∀y∈l,bl w y.af=true):B4 (Ex w) l=0:=by
 cases l with
 |nil=>rfl
 |cons y l=>rw [bY,if_neg];have h1:=h y (by simp);have h2:=cV h1;have h3:=FA h1;unfold Ex;rw [h2];simpa using fun e=>h3 e.symm
theorem vT {w:Ac}: ∀{l:List Ac},Da l→Np l w (B4 (Ex w.af) l)=Bj wk w l
 | [],_=>by simp [Np,Bj,B4]
 |x::l,h=>by
  obtain⟨h1,h2⟩:=SY h;have ih:=vT (w:=w) h2;rw [bY,Bj];by_cases ha:bl (wk w) (wk x)=true
  ·have hl:Ex w.af x=false:=by
    have h3:=cV ha;have h4:=FA ha;unfold Ex;rw [h3];simpa using fun e=>h4 e.symm
   rw [if_pos ha,hl,if_neg (by simp)];simp [Np]
  rw [if_neg ha];by_cases he:wk w=wk x
  ·have hl:Ex w.af x=true:=by unfold Ex;rw [show(x.af==w.af)=true by simpa using he.symm];simp
   have hz:B4 (Ex w.af) l=0:=zB3 fun y hy=>by rw [show w.af=x.af from he];exact h1 y hy
   rw [if_pos he,hl,if_pos rfl,hz];simp [Np,show x.af=w.af from he.symm]
  ·have hb:bl x.af w.af=true:=Wv (by simpa using ha) he;have hl:Ex w.af x=true:=by unfold Ex;rw [hb];rfl
   rw [if_neg he,hl,if_pos rfl,←ih];have hle:=Tj (Ex w.af) l;generalize B4 (Ex w.af) l=q at hle;unfold Np;rw [if_neg (by omega),Nat.add_sub_cancel];cases q with
   |zero=>simp only [List.getElem?_cons_zero,if_true];rw [if_neg (fun e=>he e.symm)];simp
   |succ q=>
    rw [if_neg (by omega),Nat.add_sub_cancel,List.getElem?_cons_succ,List.getElem?_eq_getElem (by omega)];simp only;split
    ·simp
    ·simp
theorem xV {w:Af}: ∀{l:List Ac},Da l→ ∀(j:Nat) (hj:j<l.length),B4 (Ex w) l≤j→Ex w l[j]=false
 | [],_,j,hj,_=>by simp at hj
 |x::l,h,j,hj,hq=>by
  obtain⟨h1,h2⟩:=SY h;rw [bY]at hq;by_cases hx:Ex w x=true
  ·rw [if_pos hx]at hq;cases j with
   |zero=>omega
   |succ j=>exact xV h2 j (by simpa using hj) (by omega)
  ·have Dc:Ex w x=false:=by simpa using hx
   cases j with
   |zero=>exact Dc
   |succ j=>have hm:l[j]'(by simpa using hj)∈l:=List.getElem_mem _;have h3:=h1 _ hm;show Ex w (l[j]'(by simpa using hj))=false;unfold Ex at Dc ⊢;simp only [Bool.or_eq_false_iff,beq_eq_false_iff_ne]at Dc ⊢;have h4:bl w x.af=true:=Wv Dc.1 Dc.2;have h5:=F8 h4 h3;exact⟨cV h5,fun e=>FA h5 e.symm⟩
theorem jH {i:Nat} (h0:0<i) (h:i≤2000000):IntKind.i64.wrap ((i:Int)-1)=((i-1:Nat):Int):=by rw [Bc (by omega) (by omega)];omega
theorem Ml {l:List Ac} {w:Ac} (hl:l.length≤2000000) (hr:Da l):G7 l w=some (Bj wk w l):=by
 have hk: ∀q:Nat,q≤l.length→Zt l w (q:Int)=some (Np l w q):=by
  intro q hq;have r1:0≤(q:Int)∧(q:Int)≤(l.length:Int)∧(l.length:Int)≤(l.length:Int):=by omega
  have GJ:(Bn l (q:Int) (l.length:Int))=l.drop q:=by rw [show(l.length:Int)=((l.length:Nat):Int)from rfl,Px,List.take_length]
  have F1:(Bn l 0 (q:Int))=l.take q:=Ps l q;have r2:((([]:List Ac).length:Int)+((l.drop q).length:Int))*40≤140737488355328∧(([]:List Ac).length:Int)+((l.drop q).length:Int)≤140737488355328:=by rw [List.length_nil,List.length_drop];omega
  have r3:0≤(0:Int)∧(0:Int)≤(q:Int)∧(q:Int)≤(l.length:Int):=by omega
  have r4:((([]:List Ac).length:Int)+((l.take q).length:Int))*40≤140737488355328∧(([]:List Ac).length:Int)+((l.take q).length:Int)≤140737488355328:=by rw [List.length_nil,List.length_take];omega
  have r5:(((l.take q).length:Int)+(([w]:List Ac).length:Int))*40≤140737488355328∧((l.take q).length:Int)+(([w]:List Ac).length:Int)≤140737488355328:=by rw [AH,List.length_take];omega
  have r6:(((l.take q++ [w]).length:Int)+((l.drop q).length:Int))*40≤140737488355328∧((l.take q++ [w]).length:Int)+((l.drop q).length:Int)≤140737488355328:=by rw [Ar,AH,List.length_take,List.length_drop];omega
  have r7:((([]:List Ac).length:Int)+((l).length:Int))*40≤140737488355328∧(([]:List Ac).length:Int)+((l).length:Int)≤140737488355328:=by rw [List.length_nil];omega
  unfold Zt Np;by_cases h0:q=0
  ·subst h0;rw [if_neg (by simp),if_pos rfl];rw [AT r1,GJ,AT r2,AT r3,F1,AT r4,AT r5,AT r6]
  ·have Ge:q-1<l.length:=by omega
   rw [if_pos (by simp;omega),if_neg h0,jH (by omega) (by omega),AN Ge,Aa,List.getElem?_eq_getElem Ge];simp only;by_cases he:(l[q-1]).af=w.af
   ·rw [if_pos (by simpa using he),if_pos he,AT r7,Aa];rfl
   ·rw [if_neg (by simpa using he),if_neg he];rw [AT r1,GJ,AT r2,AT r3,F1,AT r4,AT r5,AT r6]
 have hle:=Tj (Ex w.af) l;have key: ∀n j:Nat,j=B4 (Ex w.af) l+n→j≤l.length→AA (fun s:Int=>PQ l w s) (j:Int)=some (Np l w (B4 (Ex w.af) l)):=by
  intro n
  induction n with
  |zero=>
   intro j hj fT;have QS:j=B4 (Ex w.af) l:=by omega
   refine(Dw ?_).trans (hk _ hle);show PQ l w (j:Int)=_;unfold PQ;by_cases h0:j=0
   ·rw [if_neg (by simp [h0]),QS]
   ·have Ge:j-1<l.length:=by omega
    have ht:=tJ (lt:=Ex w.af) (l:=l) (i:=j-1) (by omega);rw [if_pos (by simp;omega),jH (by omega) (by omega),AN Ge,Aa,if_neg,QS];unfold Ex at ht;have ht:(bl l[j-1].af w.af||l[j-1].af==w.af)=true:=ht;show¬(!(bl l[j-1].af w.af||l[j-1].af==w.af))=true;rw [ht];simp
  |succ n ih=>
   intro j hj fT;have Ge:j-1<l.length:=by omega
   have ht:=xV (w:=w.af) hr (j-1) Ge (by omega);have e:PQ l w (j:Int)=some (.inl ((j-1:Nat):Int)):=by unfold PQ;rw [if_pos (by simp;omega),jH (by omega) (by omega),AN Ge,Aa,if_pos];have ht:(bl l[j-1].af w.af||l[j-1].af==w.af)=false:=ht;show(!(bl l[j-1].af w.af||l[j-1].af==w.af))=true;rw [ht];rfl
   rw [DM (body:=fun s:Int=>PQ l w s) e];exact ih (j-1) (by omega) (by omega)
 unfold G7;rw [key (l.length-B4 (Ex w.af) l) l.length (by omega) (Nat.le_refl _),vT hr]
structure Gn (o:Ay):Prop where
 key:An o.af=true
 val:Gj o.a7=true
 oj:o.ji=0
 kind:o.aj=2∨o.aj=3∨o.aj=6∨o.aj=7
 none:o.aj=3∨o.aj=6→o.a7= []
theorem zxd {s:Af} (h:Gj s=true):s.length≤24:=by unfold Gj at h;simp only [Ae,decide_eq_true_eq]at h;omega
theorem S3 {s:Af} (h:An s=true):s.length≤12:=by unfold An at h;simp only [Ae]at h;have:=B7.1 h.1;omega
theorem zyb (s:Af) (h:s.length≤2000000): ∃r,Wb s=some r:=by
 unfold Wb;rw [Iq,Aa];cases hb:BP s.length 1 6 with
 |false=>exact⟨_,rfl⟩
 |true=>
  have h1:=B7.1 hb;obtain⟨x,e,_,_⟩:=IX (xs:=s) (i:=0) (by omega) (by omega);rw [if_pos rfl,e,Aa];split
  ·exact⟨_,rfl⟩
  ·have key: ∀(n q:Nat) (v:Int),q+n=s.length→ ∃r,AA (fun s_:Int × Int=>L4 s s_.1 s_.2) (v,(q:Int))=some r:=by
    intro n
    induction n with
    |zero=>intro q v hq;refine⟨v,Dw ?_⟩;show L4 s v q=_;unfold L4;rw [if_neg (by simp;omega)]
    |succ n ih=>
     intro q v hq;have Am:q<s.length:=by omega
     by_cases hd:((decide (((s[q]).toNat:Int)<48))||(decide (((s[q]).toNat:Int)>57)))=true
     ·refine⟨-1,Dw ?_⟩;show L4 s v q=_;unfold L4;rw [if_pos (by simpa using Am),AN Am,Aa,if_pos hd]
     ·have e:L4 s v q=some (.inl ((IntKind.i64.wrap ((IntKind.i64.wrap ((10:Int)*v))+(IntKind.i64.wrap (IntKind.u8.wrap (((s[q]).toNat:Int)-48))))),((q+1:Nat):Int))):=by
       unfold L4;rw [if_pos (by simpa using Am),AN Am,Aa,if_neg hd,Bl Am (by omega)]
      obtain⟨r,hr⟩:=ih (q+1) _ (by omega);exact⟨r,(DM (body:=fun s_:Int × Int=>L4 s s_.1 s_.2) e).trans hr⟩
   exact key s.length 0 0 (by omega)
theorem zEC (s:Af) (h:s.length≤2000000): ∃r,Wf s=some r:=by
 have GZ: ∀(y:UInt8) (v:Af),v.length≤2000000→ ∃r,ZM y v=some r:=by
  intro y v hv;obtain⟨r,e⟩:=zyb v hv;unfold ZM;rw [e,Aa];split
  ·exact⟨_,rfl⟩
  ·split<;>exact⟨_,rfl⟩
 unfold Wf;by_cases h0:(s.length:Int)>0
 ·obtain⟨x,e,_,_⟩:=IX (xs:=s) (i:=0) (by omega) (by omega);rw [if_pos (by simpa using h0),e,Aa];split
  ·rw [AT (by omega)];exact GZ _ _ (by rw [kO,List.length_tail];omega)
  ·exact GZ _ _ h
 ·rw [if_neg (by simpa using h0)];unfold zm5;obtain⟨r,e⟩:=zyb s h;rw [e,Aa];split<;>exact⟨_,rfl⟩
def GR (o:Ay) (val:Af) (there:Bool):Bool:=if o.aj=6 then !there else there&&val==o.a7
def Dy (got:List BO):List Ay→List Ac→Int × Af × List Ac
 | [],ws=>(3, [],ws)
 |o::l,ws=>
  if o.aj=2 then Dy got l (Bj wk ⟨o.af,o.a7,false⟩ ws)else
  if o.aj=3 then Dy got l (Bj wk ⟨o.af, [],true⟩ ws)else
  if(Dk ws got o.af).2.2=true then(if GR o (Dk ws got o.af).1 (Dk ws got o.af).2.1=true then Dy got l ws else(2, [], []))
  else(1,o.af, [])
structure D9 (n:Nat) (ws:List Ac):Prop where
 cd:Da ws
 len:ws.length≤n
 bu: ∀w∈ws,CV w=true
theorem K3 {n:Nat} {ws:List Ac} {w:Ac} (h:D9 n ws) (hw:CV w=true):D9 (n+1) (Bj wk w ws):=by
 refine⟨Wr h.cd,Nat.le_trans (vK _) (by have:=h.len;omega),fun y hy=> ?_⟩;rcases(Tb (key:=wk) h.cd y).1 hy with rfl|hy
 ·exact hw
 ·exact h.bu y hy.1
theorem rK {o:Ay} (h:Gn o):CV ⟨o.af,o.a7,false⟩=true:=by unfold CV Ir;simp [h.key,h.val]
theorem qE {o:Ay} (h:Gn o):CV ⟨o.af, [],true⟩=true:=by unfold CV Ir;rw [h.key];rfl
theorem bZ {w:Ac} (h:CV w=true):w.a7.length≤24:=by unfold CV Ir at h;simp only [Ae]at h;exact zxd h.2.1
theorem zxZ {w:Ac} (h:CV w=true):w.af.length≤12:=by unfold CV at h;simp only [Ae]at h;exact S3 h.1
theorem zuH {ws:List Ac} {got:List BO} {k:Af} (hw: ∀w∈ws,CV w=true) (hg: ∀g∈got,g.a7.length≤2000):(Dk ws got k).1.length≤2000:=by
 unfold Dk;cases e:ws.find? (fun w=>w.af==k)with
 |some w=>have:=bZ (hw w (List.mem_of_find?_eq_some e));show w.a7.length≤2000;omega
 |none=>
  unfold Oo;cases e2:got.find? (fun g=>g.af==k)with
  |some g=>exact hg g (List.mem_of_find?_eq_some e2)
  |none=>simp
theorem zD3 {o:Ay} (h:Gn o) (Jg:o.aj≠2) (hk3:o.aj≠3) {val:Af} {there:Bool} (hv:val.length≤2000):Ze o val there=some (GR o val there):=by
 have e: ∃r,VY val=some r:=by unfold VY ZW;rw [AT (by omega)];exact⟨_,rfl⟩
 obtain⟨r,e⟩:=e;unfold Ze GR;rw [e,Aa];rcases h.kind with h1|h1|h1|h1
 ·exact absurd h1 Jg
 ·exact absurd h1 hk3
 ·rw [h1];rfl
 ·rw [h1];rfl
theorem zE2 {o:Ay} (h:Gn o) {val:Af} {there:Bool} (hv:val.length≤2000):ZX o val there=some (if o.aj=2∨o.aj=3 then false else !GR o val there):=by
 obtain⟨r,e⟩:=zEC val (by omega);unfold ZX GR;rw [e,Aa];rcases h.kind with h1|h1|h1|h1
 ·rw [h1];rfl
 ·rw [h1];rfl
 ·rw [h1];cases there<;>rfl
 ·rw [h1];show some (!there||val !=o.a7)=some (!(there&&val==o.a7));cases there<;>simp [bne]
theorem zG0 {ops:List Ay} {got:List BO} (hl:ops.length≤1000) (ho: ∀o∈ops,Gn o) (hg:got.length≤2000) (hv: ∀g∈got,g.a7.length≤2000):nT ops got=some (Dy got ops []):=by
 have key: ∀(n q:Nat) (ws:List Ac),q+n=ops.length→D9 q ws→AA (fun s:Int × List Ac=>IM ops got s.1 s.2) ((q:Int),ws)=some (Dy got (ops.drop q) ws):=by
  intro n
  induction n with
  |zero=>intro q ws hq hw;rw [List.drop_eq_nil_of_le (by omega),Dy];refine Dw ?_;show IM ops got q ws=_;unfold IM;rw [if_neg (by simp;omega)]
  |succ n ih=>
   intro q ws hq hw;have Am:q<ops.length:=by omega
   have Ax:=ho _ (List.getElem_mem Am);have Na:=hw.len;have Gf:=Bl Am (by omega);rw [List.drop_eq_getElem_cons Am,Dy];by_cases h2:(ops[q]).aj=2
   ·rw [if_pos h2];have e:IM ops got q ws=some (.inl (((q+1:Nat):Int),Bj wk ⟨(ops[q]).af,(ops[q]).a7,false⟩ ws)):=by
     unfold IM;rw [if_pos (by simpa using Am),AN Am,Aa,if_pos (by simpa using h2),qC (by omega) hw.cd,Aa,Gf]
    rw [DM (body:=fun s:Int × List Ac=>IM ops got s.1 s.2) e];exact ih (q+1) _ (by omega) (K3 hw (rK Ax))
   rw [if_neg h2];by_cases h3:(ops[q]).aj=3
   ·rw [if_pos h3];have e:IM ops got q ws=some (.inl (((q+1:Nat):Int),Bj wk ⟨(ops[q]).af, [],true⟩ ws)):=by
     unfold IM;rw [if_pos (by simpa using Am),AN Am,Aa,if_neg (by simpa using h2),if_pos (by simpa using h3),qC (by omega) hw.cd,Aa,Gf]
    rw [DM (body:=fun s:Int × List Ac=>IM ops got s.1 s.2) e];exact ih (q+1) _ (by omega) (K3 hw (qE Ax))
   rw [if_neg h3];have CQ:=zuH (k:=(ops[q]).af) hw.bu hv;have hb:IM ops got q ws=if(Dk ws got (ops[q]).af).2.2=true then(if GR ops[q] (Dk ws got (ops[q]).af).1 (Dk ws got (ops[q]).af).2.1=true then some (.inl (((q+1:Nat):Int),ws))else some (.inr (some (2, [], []))))else some (.inr (some (1,(ops[q]).af, []))):=by
    unfold IM;rw [if_pos (by simpa using Am),AN Am,Aa,if_neg (by simpa using h2),if_neg (by simpa using h3),zAR (by omega) (by omega) hw.cd,Aa];cases hs:(Dk ws got (ops[q]).af).2.2 with
    |false=>rw [if_pos (by simp),if_neg (by simp)]
    |true=>
     rw [if_neg (by simp),if_pos rfl,zD3 Ax h2 h3 CQ,Aa];have h4: ¬(ops[q]).aj=4:=by rcases Ax.kind with h|h|h|h<;>omega
     cases GR ops[q] (Dk ws got (ops[q]).af).1 (Dk ws got (ops[q]).af).2.1 with
     |false=>rfl
     |true=>rw [if_neg (by simp),if_neg (by simpa using h4),if_pos rfl,Gf]
   by_cases hs:(Dk ws got (ops[q]).af).2.2=true
   ·rw [if_pos hs]at hb ⊢;by_cases hk:GR ops[q] (Dk ws got (ops[q]).af).1 (Dk ws got (ops[q]).af).2.1=true
    ·rw [if_pos hk]at hb ⊢;rw [DM (body:=fun s:Int × List Ac=>IM ops got s.1 s.2) hb];exact ih (q+1) _ (by omega) ⟨hw.cd,by omega,hw.bu⟩
    ·rw [if_neg hk]at hb ⊢;exact Dw hb
   ·rw [if_neg hs]at hb ⊢;exact Dw hb
 exact key ops.length 0 [] (by omega) ⟨List.Pairwise.nil,Nat.le_refl _,by simp⟩
theorem zHg {ops:List Ay} {got:List BO} (hl:ops.length≤1000) (ho: ∀o∈ops,Gn o) (hg:got.length≤2000) (hv: ∀g∈got,g.a7.length≤2000):nN ops got=some (Dy got ops []):=by
 have key: ∀(n q:Nat) (ws:List Ac),q+n=ops.length→D9 q ws→AA (fun s:List Ac × Int=>IL ops got s.1 s.2) (ws,(q:Int))=some (Dy got (ops.drop q) ws):=by
  intro n
  induction n with
  |zero=>intro q ws hq hw;rw [List.drop_eq_nil_of_le (by omega),Dy];refine Dw ?_;show IL ops got ws q=_;unfold IL;rw [if_neg (by simp;omega)]
  |succ n ih=>
   intro q ws hq hw;have Am:q<ops.length:=by omega
   have Ax:=ho _ (List.getElem_mem Am);have Na:=hw.len;have Gf:=Bl Am (by omega);have CQ:=zuH (k:=(ops[q]).af) hw.bu hv;have QQ:=zE2 Ax (val:=(Dk ws got (ops[q]).af).1) (there:=(Dk ws got (ops[q]).af).2.1) CQ;rw [List.drop_eq_getElem_cons Am,Dy];by_cases h2:(ops[q]).aj=2
   ·rw [if_pos h2];rw [if_pos (.inl h2)]at QQ;have e:IL ops got ws q=some (.inl (Bj wk ⟨(ops[q]).af,(ops[q]).a7,false⟩ ws,((q+1:Nat):Int))):=by
     unfold IL;rw [if_pos (by simpa using Am),AN Am,Aa,qS (by omega) (by omega),Aa,if_neg (by simp [h2]),QQ,Aa,if_neg (by simp),if_pos (by simpa using h2),Ml (by omega) hw.cd,Aa,Gf]
    rw [DM (body:=fun s:List Ac × Int=>IL ops got s.1 s.2) e];exact ih (q+1) _ (by omega) (K3 hw (rK Ax))
   rw [if_neg h2];by_cases h3:(ops[q]).aj=3
   ·rw [if_pos h3];rw [if_pos (.inr h3)]at QQ;have e:IL ops got ws q=some (.inl (Bj wk ⟨(ops[q]).af, [],true⟩ ws,((q+1:Nat):Int))):=by
     unfold IL;rw [if_pos (by simpa using Am),AN Am,Aa,qS (by omega) (by omega),Aa,if_neg (by simp [h3]),QQ,Aa,if_neg (by simp),if_neg (by simpa using h2),if_pos (by simpa using h3),Ml (by omega) hw.cd,Aa,Gf]
    rw [DM (body:=fun s:List Ac × Int=>IL ops got s.1 s.2) e];exact ih (q+1) _ (by omega) (K3 hw (qE Ax))
   rw [if_neg h3];rw [if_neg (by simp [h2,h3])]at QQ;have hb:IL ops got ws q=if(Dk ws got (ops[q]).af).2.2=true then(if GR ops[q] (Dk ws got (ops[q]).af).1 (Dk ws got (ops[q]).af).2.1=true then some (.inl (ws,((q+1:Nat):Int)))else some (.inr (some (2, [], []))))else some (.inr (some (1,(ops[q]).af, []))):=by
    unfold IL;rw [if_pos (by simpa using Am),AN Am,Aa,qS (by omega) (by omega),Aa];cases hs:(Dk ws got (ops[q]).af).2.2 with
    |false=>rw [if_pos (by simp [h2,h3]),if_neg (by simp)]
    |true=>
     rw [if_neg (by simp),if_pos rfl,QQ,Aa];have h4: ¬(ops[q]).aj=4:=by rcases Ax.kind with h|h|h|h<;>omega
     cases GR ops[q] (Dk ws got (ops[q]).af).1 (Dk ws got (ops[q]).af).2.1 with
     |false=>rfl
     |true=>rw [if_neg (by simp),if_neg (by simpa using h2),if_neg (by simpa using h3),if_neg (by simpa using h4),if_pos rfl,Gf]
   by_cases hs:(Dk ws got (ops[q]).af).2.2=true
   ·rw [if_pos hs]at hb ⊢;by_cases hk:GR ops[q] (Dk ws got (ops[q]).af).1 (Dk ws got (ops[q]).af).2.1=true
    ·rw [if_pos hk]at hb ⊢;rw [DM (body:=fun s:List Ac × Int=>IL ops got s.1 s.2) hb];exact ih (q+1) _ (by omega) ⟨hw.cd,by omega,hw.bu⟩
    ·rw [if_neg hk]at hb ⊢;exact Dw hb
   ·rw [if_neg hs]at hb ⊢;exact Dw hb
 exact key ops.length 0 [] (by omega) ⟨List.Pairwise.nil,Nat.le_refl _,by simp⟩
theorem aZ {got:List BO}: ∀(l:List Ay) {n:Nat} {ws:List Ac},(∀o∈l,Gn o)→D9 n ws→D9 (n+l.length) (Dy got l ws).2.2∧((Dy got l ws).1=1→ ∃o∈l,o.af=(Dy got l ws).2.1∧ ∀g∈got,g.af≠o.af)
 | [],n,ws,_,hw=>⟨hw,fun h=>by simp [Dy]at h⟩
 |o::l,n,ws,ho,hw=>by
  have Ax:=ho o (by simp);have hl: ∀o∈l,Gn o:=fun x hx=>ho x (by simp [hx]);have up: ∀{w:List Ac},D9 (n+l.length) w→D9 (n+(o::l).length) w:=fun h=>⟨h.cd,by have:=h.len;rw [Ao];omega,h.bu⟩
  rw [Dy];split
  ·obtain⟨a,b⟩:=aZ (got:=got) l hl (K3 hw (rK Ax));refine⟨⟨a.cd,by have:=a.len;rw [Ao];omega,a.bu⟩,fun h=> ?_⟩;obtain⟨x,hx,h1,h2⟩:=b h;exact⟨x,by simp [hx],h1,h2⟩
  ·split
   ·obtain⟨a,b⟩:=aZ (got:=got) l hl (K3 hw (qE Ax));refine⟨⟨a.cd,by have:=a.len;rw [Ao];omega,a.bu⟩,fun h=> ?_⟩;obtain⟨x,hx,h1,h2⟩:=b h;exact⟨x,by simp [hx],h1,h2⟩
   ·split
    ·split
     ·obtain⟨a,b⟩:=aZ (got:=got) l hl hw;refine⟨up a,fun h=> ?_⟩;obtain⟨x,hx,h1,h2⟩:=b h;exact⟨x,by simp [hx],h1,h2⟩
     ·exact⟨⟨List.Pairwise.nil,by simp,by simp⟩,fun h=>by simp at h⟩
    ·rename_i hs;refine⟨⟨List.Pairwise.nil,by simp,by simp⟩,fun _=>⟨o,by simp,rfl,fun g hg e=> ?_⟩⟩;apply hs;unfold Dk;cases e1:ws.find? (fun w=>w.af==o.af)with
     |some w=>rfl
     |none=>
      unfold Oo;cases e2:got.find? (fun g=>g.af==o.af)with
      |some g=>rfl
      |none=>rw [List.find?_eq_none]at e2;exact absurd (by simpa using e) (e2 g hg)
def mu (ops:List Ay) (got:List BO):Nat:=(ops.filter fun o=>got.all fun g=>g.af !=o.af).length
theorem zH0 {ops:List Ay} {got:List BO} {g:BO} {o:Ay} (ho:o∈ops) (hk:o.af=g.af) (hn: ∀x∈got,x.af≠o.af):mu ops (got++ [g])<mu ops got:=by
 unfold mu;have e:(fun o:Ay=>(got++ [g]).all fun x=>x.af !=o.af)=fun o=>(got.all fun x=>x.af !=o.af)&&(g.af !=o.af):=by funext x;rw [List.all_append];simp
 have e2:ops.filter (fun o:Ay=>(got++ [g]).all fun x=>x.af !=o.af)=(ops.filter fun o=>got.all fun x=>x.af !=o.af).filter fun o=>g.af !=o.af:=by rw [e,List.filter_filter];congr 1;funext x;rw [Bool.and_comm]
 rw [e2];have hm:o∈ops.filter fun o=>got.all fun x=>x.af !=o.af:=List.mem_filter.2 ⟨ho,AJ.2 fun x hx=>by simpa using hn x hx⟩;generalize ops.filter (fun o=>got.all fun x=>x.af !=o.af)=l at hm;have Am: ∀(l:List Ay),o∈l→(l.filter fun o=>g.af !=o.af).length<l.length:=by
  intro l
  induction l with
  |nil=>intro h;simp at h
  |cons y l ih=>
   intro h;rw [List.filter_cons];rcases Ag.1 h with rfl|h
   ·rw [if_neg (by simp [hk])];have:=List.length_filter_le (fun o:Ay=>g.af !=o.af) l;rw [Ao];omega
   ·have:=ih h;split
    ·rw [Ao,Ao];omega
    ·rw [Ao];omega
 exact Am l hm
theorem zJs (ops:List Ay) (got:List BO):mu ops got≤ops.length:=List.length_filter_le _ _
def IJ (rows:List Ac) (ops:List Ay):Nat→List BO→List Ac × Bool
 |0,_=>([],false)
 |n+1,got=>if(Dy got ops []).1=1 then IJ rows ops n (got++ [Dj rows (Dy got ops []).2.1])else((Dy got ops []).2.2,(Dy got ops []).1==3)
structure Qt (rows:List Ac):Prop where
 cd:Da rows
 len:rows.length≤24
 bu: ∀w∈rows,CV w=true
theorem zEh {rows:List Ac} {k:Af} (h:Qt rows):(Dj rows k).a7.length≤2000∧(Dj rows k).af=k:=by
 unfold Dj;cases e:rows.find? (fun w=>w.af==k)with
 |some w=>have:=bZ (h.bu w (List.mem_of_find?_eq_some e));exact⟨by show w.a7.length≤2000;omega,rfl⟩
 |none=>exact⟨by simp,rfl⟩
theorem vY {rows:List Ac} {ops:List Ay} (hl:ops.length≤8) (ho: ∀o∈ops,Gn o) (hr:Qt rows): ∀(n:Nat) (got:List BO),mu ops got<n→got.length+n≤1000→(∀g∈got,g.a7.length≤2000)→
  (∃g,AA (fun s:List BO=>PJ rows ops s) got=some (g,IJ rows ops n got))∧(∃g,AA (fun s:List BO=>PH rows ops s) got=some (g,IJ rows ops n got))∧D9 8 (IJ rows ops n got).1
 |0,got,hm,_,_=>by omega
 |n+1,got,hm,hg,hv=>by
  have hi:=zG0 (got:=got) (by omega) ho (by omega) hv;have hs:=zHg (got:=got) (by omega) ho (by omega) hv;obtain⟨ga,gb⟩:=aZ (got:=got) ops (n:=0) (ws:= []) ho ⟨List.Pairwise.nil,Nat.le_refl _,by simp⟩;have J3:=hr.len;rw [IJ];generalize Dy got ops []=r at hi hs ga gb;by_cases h1:r.1=1
  ·rw [if_pos h1];obtain⟨o,hom,Ax,J0⟩:=gb h1;obtain⟨t1,t2⟩:=zEh (k:=r.2.1) hr;have hq:(((got).length:Int)+(([Dj rows r.2.1]:List BO).length:Int))*40≤140737488355328∧((got).length:Int)+(([Dj rows r.2.1]:List BO).length:Int)≤140737488355328:=by
    rw [AH];omega
   have ei:PJ rows ops got=some (.inl (got++ [Dj rows r.2.1])):=by unfold PJ;rw [hi,Aa,if_neg (by simp [h1]),zEx (by omega) hr.cd,Aa,AT hq]
   have es:PH rows ops got=some (.inl (got++ [Dj rows r.2.1])):=by unfold PH;rw [hs,Aa,if_neg (by simp [h1]),zGC (by omega),Aa,AT hq]
   rw [DM (body:=fun s:List BO=>PJ rows ops s) ei,DM (body:=fun s:List BO=>PH rows ops s) es];refine vY hl ho hr n _ ?_ (by rw [Ar,AH];omega) fun g Ck=> ?_
   ·have:=zH0 (g:=Dj rows r.2.1) hom (Ax.trans t2.symm) J0;omega
   ·rcases Ai.1 Ck with h|h
    ·exact hv g h
    ·rw [List.mem_singleton]at h;subst h;exact t1
  ·rw [if_neg h1];refine⟨⟨got,Dw ?_⟩,⟨got,Dw ?_⟩,ga.cd,by have:=ga.len;show r.2.2.length≤8;omega,ga.bu⟩
   ·show PJ rows ops got=_;unfold PJ;rw [hi,Aa,if_pos (by simpa using h1)]
   ·show PH rows ops got=_;unfold PH;rw [hs,Aa,if_pos (by simpa using h1)]
def FC (rows:List Ac) (ops:List Ay):List Ac × Bool:=IJ rows ops 9 []
theorem s9 {rows:List Ac} {ops:List Ay} (hl:ops.length≤8) (ho: ∀o∈ops,Gn o) (hr:Qt rows):(∃g,nK rows ops=some (g,FC rows ops))∧(∃g,nX rows ops=some (g,FC rows ops))∧D9 8 (FC rows ops).1:=by have:=zJs ops [];exact vY hl ho hr 9 [] (by omega) (by simp) (by simp)
theorem rD {s:Af} (h:field s=true):s.length≤3:=by unfold field at h;simp only [Ae]at h;have:=B7.1 h.1;omega
theorem tN {t:Ad} {r:AD} (h:Bd t r=true) (c:Int):(C8 r c).length≤3:=by
 unfold Bd at h;simp only [Ae]at h;unfold C8;cases e:r.ax[c.toNat]? with
 |none=>simp
 |some s=>exact rD (AJ.1 h.2 s (List.mem_of_getElem? e))
theorem qR {k:Nat}: ∀{xs:List Af},(∀s∈xs,s.length≤k)→Ez xs≤k*xs.length
 | [],_=>by simp [Ez]
 |s::xs,h=>by have h1:=h s (by simp);have h2:=qR (k:=k) (xs:=xs) fun y hy=>h y (by simp [hy]);simp only [Ez,Ao,Nat.mul_add,Nat.mul_one];omega
theorem zE5 {t:Ad} {r:AD} (hg:A0 t=true) (h:Bd t r=true):(AQ t r).af.length≤5∧(AQ t r).a7.length≤20:=by
 have hn:=SO (K0 hg);have hc:=Jt hg;have hv:=tN h 0;have h':=h;unfold Bd at h';simp only [Ae,beq_iff_eq]at h';have Cj: ∀s∈r.ax,s.length≤3:=fun s hs=>rD (AJ.1 h'.2 s hs);constructor
 ·unfold AQ;have e:(r.ax.head?).getD []=C8 r 0:=by unfold C8;rw [List.head?_eq_getElem?];rfl
  simp only [e,Ar,AH];omega
 ·have h1:=sI r.ax.tail [44];have h2:=qR (k:=3) (xs:=r.ax.tail) fun s hs=>Cj s (List.mem_of_mem_tail hs);have h3:r.ax.tail.length≤3:=by rw [List.length_tail];omega
  rw [AH]at h1;show(Lib.join r.ax.tail [44]).length≤20;omega
theorem zD4 {t:Ad} {n:Af} {c:Int} {r:AD} (hg:A0 t=true) (hn:n.length=1) (h:Bd t r=true):(Bv t n c r).length≤11:=by have h1:=SO (K0 hg);have h2:=tN h c;have h3:=tN h 0;unfold Bv head;simp only [Ar,AH];omega
theorem vW {α β:Type} {P:β→Prop} {f:α→List β}: ∀(xs:List α) (a:List β),(∀x∈xs,∀o∈f x,P o)→(∀o∈a,P o)→ ∀o∈xs.foldl (fun a x=>a++f x) a,P o
 | [],a,_,h=>h
 |x::xs,a,hf,h=>vW xs (a++f x) (fun y hy=>hf y (by simp [hy])) fun o ho=>by
  rcases Ai.1 ho with ho|ho
  ·exact h o ho
  ·exact hf x (by simp) o ho
theorem zyf {α β:Type} {f:α→List β} (hf: ∀x,(f x).length≤2): ∀(xs:List α) (a:List β),(xs.foldl (fun a x=>a++f x) a).length≤a.length+2*xs.length
 | [],a=>by simp
 |x::xs,a=>by have h1:=zyf hf xs (a++f x);have h2:=hf x;rw [Ar]at h1;rw [List.foldl_cons,Ao];omega
def Nu (s:Af):Prop:= ∀b∈s,(Fi b||([46,47]:Af).contains b)=true
def zX (s:Af):Prop:= ∀b∈s,(Fi b||([46,45,44,95]:Af).contains b)=true
theorem zCT {s:Af} (h:field s=true): ∀b∈s,Fi b=true:=by unfold field Ku at h;simp only [Ae]at h;intro b hb;have:=AJ.1 h.2 b hb;simpa using this
theorem SJ {s:Af} {k:Int} (h:CG s k=true): ∀b∈s,Fi b=true:=by unfold CG at h;simp only [Ae]at h;intro b hb;have:=AJ.1 h.1 b hb;unfold small at this;unfold Fi;simp only [Bool.not_eq_true',Bool.or_eq_false_iff,decide_eq_false_iff_not]at this;simp only [Bool.or_eq_true,Ae,decide_eq_true_eq];left;omega
theorem SU {s:Af} (h: ∀b∈s,Fi b=true):Nu s:=fun b hb=>by rw [h b hb];rfl
theorem Nu.app {s u:Af} (h:Nu s) (k:Nu u):Nu (s++u):=fun b hb=>by
 rcases Ai.1 hb with hb|hb
 ·exact h b hb
 ·exact k b hb
theorem zJJ:Nu [46]:=fun b hb=>by rw [List.mem_singleton]at hb;subst hb;decide
theorem jW:Nu [47]:=fun b hb=>by rw [List.mem_singleton]at hb;subst hb;decide
theorem zu5 {s:Af} (h1:1≤s.length) (h2:s.length≤12) (h:Nu s):An s=true:=by unfold An Ku;rw [B7.2 ⟨by omega,by omega⟩,AJ.2 h];rfl
theorem zA1 {s:Af} (h2:s.length≤24) (h:zX s):Gj s=true:=by unfold Gj Ku;rw [show decide ((s.length:Int)≤24)=true by simp;omega,AJ.2 h];rfl
theorem zE3 {xs:List Af} (h: ∀x∈xs,∀b∈x,Fi b=true):zX (Lib.join xs [44]):=by
 cases xs with
 |nil=>intro b hb;simp [Lib.join_nil]at hb
 |cons x r=>
  intro b hb;rw [Lib.join_cons]at hb;rcases Ai.1 hb with hb|hb
  ·rw [h x (by simp) b hb];rfl
  ·unfold Lib.joinTail at hb;obtain⟨l,hl,XF⟩:=List.mem_flatten.1 hb;obtain⟨y,hy,rfl⟩:=List.mem_map.1 hl;rcases Ai.1 XF with hb|hb
   ·rw [List.mem_singleton]at hb;subst hb;decide
   ·rw [h y (by simp [hy]) b hb];rfl
theorem qA {t:Ad} {r:AD} (h:Bd t r=true): ∀x∈r.ax,∀b∈x,Fi b=true:=by unfold Bd at h;simp only [Ae]at h;exact fun x hx=>zCT (AJ.1 h.2 x hx)
theorem Ts {t:Ad} {r:AD} (h:Bd t r=true) (c:Int): ∀b∈C8 r c,Fi b=true:=by
 unfold C8;cases e:r.ax[c.toNat]? with
 |none=>simp
 |some s=>exact qA h s (List.mem_of_getElem? e)
theorem NO {t:Ad} {r:AD} (hg:A0 t=true) (h:Bd t r=true):An (AQ t r).af=true∧Gj (AQ t r).a7=true:=by
 have hl:=zE5 hg h;have e:(AQ t r).af=t.ab++ [47]++C8 r 0:=by unfold AQ C8;rw [List.head?_eq_getElem?];rfl
 refine⟨zu5 ?_ (by omega) ?_,zA1 (by omega) ?_⟩
 ·rw [e];simp;omega
 ·rw [e];exact((SU (SJ (K0 hg))).app jW).app (SU (Ts h 0))
 ·exact zE3 fun x hx=>qA h x (List.mem_of_mem_tail hx)
theorem Wl {t:Ad} {n:Af} {c:Int} {r:AD} (hg:A0 t=true) (hn:CG n 1=true) (h:Bd t r=true):An (Bv t n c r)=true:=by
 have hl:=zD4 (c:=c) hg (SO hn) h;refine zu5 ?_ (by omega) ?_
 ·unfold Bv;simp;omega
 ·unfold Bv head;exact((((((SU (SJ (K0 hg))).app zJJ).app (SU (SJ hn))).app jW).app (SU (Ts h c))).app jW).app (SU (Ts h 0))
theorem zz3 {t:Ad} {a:Bf} (hg:A0 t=true) (h:HO t a=true):(D7 t a).length≤8∧ ∀o∈D7 t a,Gn o:=by
 have ho:a.aj≠1→Bd t a.bq=true:=fun h1=>by
  unfold HO at h;rw [if_neg h1]at h;by_cases h2:a.aj=2
  ·rw [if_pos h2,Ae]at h;exact h.1
  rw [if_neg h2]at h;by_cases h3:a.aj=3
  ·rw [if_pos h3,Ae]at h;exact h.1
  rw [if_neg h3]at h;cases h
 have hn:a.aj≠2→Bd t a.bw=true:=fun h2=>by
  unfold HO at h;by_cases h1:a.aj=1
  ·rw [if_pos h1,Ae]at h;exact h.2
  rw [if_neg h1,if_neg h2]at h;by_cases h3:a.aj=3
  ·rw [if_pos h3,Ae,Ae]at h;exact h.2.1
  rw [if_neg h3]at h;cases h
 have hc:=Jt hg;have v0:Gj ([]:Af)=true:=by decide
 constructor
 ·have h1:=zyf (pM t a) t.ah (K6 t a);rw [oR]at h1;unfold D7;omega
 ·refine vW _ _ (fun x hx o hm=> ?_) (fun o hm=> ?_)
  ·have Jj:=(Ey hg hx).1;unfold Ha Le JA at hm;rcases Ai.1 hm with hm|hm
   ·split at hm
    ·rename_i q;rw [List.mem_singleton]at hm;subst hm;refine⟨?_,v0,rfl,by simp,fun _=>rfl⟩;show An (E5 t a x)=true;unfold E5 at q ⊢;by_cases h1:a.aj=1
     ·rw [if_pos h1]at q;exact absurd rfl q.1
     ·rw [if_neg h1];exact Wl hg Jj (ho h1)
    ·simp at hm
   ·split at hm
    ·rename_i q;rw [List.mem_singleton]at hm;subst hm;refine⟨?_,v0,rfl,by simp,fun _=>rfl⟩;show An (Ea t a x)=true;unfold Ea at q ⊢;by_cases h1:a.aj=2
     ·rw [if_pos h1]at q;exact absurd rfl q.1
     ·rw [if_neg h1];exact Wl hg Jj (hn h1)
    ·simp at hm
  ·unfold K6 at hm;split at hm
   ·rename_i q;have w:=NO hg (hn (by omega));simp only [Ag,List.not_mem_nil,or_false]at hm;rcases hm with rfl|rfl
    ·exact⟨w.1,v0,rfl,by simp,fun _=>rfl⟩
    ·exact⟨w.1,w.2,rfl,by simp,fun k=>by simp at k⟩
   ·rename_i q1;have w1:=NO hg (ho q1);split at hm
    ·simp only [Ag,List.not_mem_nil,or_false]at hm;rcases hm with rfl|rfl
     ·exact⟨w1.1,w1.2,rfl,by simp,fun k=>by simp at k⟩
     ·exact⟨w1.1,v0,rfl,by simp,fun _=>rfl⟩
    ·rename_i q2;have w2:=NO hg (hn q2);simp only [Ag,List.not_mem_nil,or_false]at hm;rcases hm with rfl|rfl
     ·exact⟨w1.1,w1.2,rfl,by simp,fun k=>by simp at k⟩
     ·exact⟨w1.1,w2.2,rfl,by simp,fun k=>by simp at k⟩
theorem Eg {l:List Ac} (h:BZ l=true):Qt l∧ ∀w∈l,w.bh=false:=by unfold BZ at h;rw [Ae]at h;have hr:=zsw h.1;have h1:=h.1;unfold Kl at h1;simp only [Ae,decide_eq_true_eq]at h1;exact⟨⟨hr,by omega,AJ.1 h1.2.1⟩,fun w hw=>by simpa using AJ.1 h.2 w hw⟩
theorem aX {l:List Ac} (hr:Da l) (hg: ∀w∈l,CV w=true) (hn: ∀w∈l,w.bh=false):BZ l=decide ((l.length:Int)≤24):=by
 have h1:K8 (l.map (·.af))=true:=by rw [oU,bD];exact(cB (r:=fun a b:Ac=>bl a.af b.af) fun a b c p q=>F8 p q).2 hr
 unfold BZ Kl;rw [h1,AJ.2 hg,show(l.all fun w=> !w.bh)=true from AJ.2 fun w hw=>by rw [hn w hw];rfl];simp
theorem aN {l:List Ac} (hl:l.length≤2000000) (hg: ∀w∈l,CV w=true):Ld l:=
 ⟨hl,fun w hw=>⟨by have:=zxZ (hg w hw);omega,by have:=bZ (hg w hw);omega⟩⟩
def Dh (rows ws:List Ac):List Ac:=(ws.foldl (fun o w=>Bj wk w o) rows).filter fun w=> !w.bh
theorem xK: ∀(ws:List Ac) {n:Nat} {rows:List Ac},D9 n rows→(∀w∈ws,CV w=true)→D9 (n+ws.length) (ws.foldl (fun o w=>Bj wk w o) rows)
 | [],n,rows,h,_=>h
 |w::ws,n,rows,h,hw=>by have:=xK ws (K3 h (hw w (by simp))) fun y hy=>hw y (by simp [hy]);exact⟨this.cd,by have:=this.len;rw [Ao];rw [List.foldl_cons];omega,this.bu⟩
theorem zxS {rows ws:List Ac} (hr:Qt rows) (hw:D9 8 ws):Da (Dh rows ws)∧(Dh rows ws).length≤32∧(∀w∈Dh rows ws,CV w=true)∧ ∀w∈Dh rows ws,w.bh=false:=by have h:=xK ws (n:=24) (rows:=rows) ⟨hr.cd,hr.len,hr.bu⟩ hw.bu;have hl:=hw.len;unfold Dh;refine⟨Ei.filter h.cd _,Nat.le_trans (List.length_filter_le _ _) (by have:=h.len;omega),fun w hm=>h.bu w (List.mem_filter.1 hm).1,fun w hm=>by simpa using(List.mem_filter.1 hm).2⟩
theorem zAP {rows ws:List Ac} (hr:Qt rows) (hw:D9 8 ws):Z4 rows ws=some (if(Dh rows ws).length>24 then([],false)else(Dh rows ws,true)):=by
 have J3:=hr.len;have Na:=hw.len;have hc:PC rows=some rows:=NW (by omega) (by omega);unfold Z4;rw [hc,Aa];have h1:=F7 (xs:=ws) (body:=fun s:Int × List Ac=>Sl ws s.1 s.2) (fun i (o:List Ac)=>(i,o)) (fun o w=>Bj wk w o) (fun o=>mI o) (fun i o=>D9 (24+i) o)
  (fun i hi o hI=>by have hI:D9 (24+i) o:=hI;have hol:=hI.len;refine⟨?_,K3 hI (hw.bu _ (List.getElem_mem hi))⟩;show Sl ws i o=_;unfold Sl;rw [if_pos (by simpa using hi),AN hi,Aa,qC (by omega) hI.cd,Aa,Bl hi (by omega)])
  (fun o hI=>by show Sl ws ws.length o=_;unfold Sl;rw [if_neg (by simp)]) (s:=rows) ⟨hr.cd,hr.len,hr.bu⟩
 rw [h1.1];have hK:D9 (24+ws.length) (ws.foldl (fun o w=>Bj wk w o) rows):=h1.2;have G0:=hK.len;unfold mI Jp;rw [AT (by omega),bL (p:=fun y0_=>mY y0_) (fun w:Ac=>w.bh) (fun w _=>rfl),Aa];show(if decide (((Dh rows ws).length:Int)>24)=true then _ else _)=_;by_cases hq:(Dh rows ws).length>24
 ·rw [if_pos (decide_eq_true (by omega)),if_pos hq]
 ·rw [if_neg (by rw [decide_eq_true_eq];omega),if_neg hq];rfl
theorem zBz {rows ws:List Ac} (hr:Qt rows) (hw:D9 8 ws):Zx rows ws=some (Dh rows ws):=by
 have J3:=hr.len;have Na:=hw.len;have hq:((([]:List Ac).length:Int)+((rows).length:Int))*40≤140737488355328∧(([]:List Ac).length:Int)+((rows).length:Int)≤140737488355328:=by rw [List.length_nil];omega
 unfold Zx;rw [AT hq];have h1:=F7 (xs:=ws) (body:=fun s:Int × List Ac=>RG ws s.1 s.2) (fun i (o:List Ac)=>(i,o)) (fun o w=>Bj wk w o) (fun o=>mF o) (fun i o=>D9 (24+i) o)
  (fun i hi o hI=>by have hI:D9 (24+i) o:=hI;have hol:=hI.len;refine⟨?_,K3 hI (hw.bu _ (List.getElem_mem hi))⟩;show RG ws i o=_;unfold RG;rw [if_pos (by simpa using hi),AN hi,Aa,Ml (by omega) hI.cd,Aa,Bl hi (by omega)])
  (fun o hI=>by show RG ws ws.length o=_;unfold RG;rw [if_neg (by simp)]) (s:=rows) ⟨hr.cd,hr.len,hr.bu⟩
 rw [h1.1];have hK:D9 (24+ws.length) (ws.foldl (fun o w=>Bj wk w o) rows):=h1.2;have G0:=hK.len;unfold Dh;generalize ws.foldl (fun o w=>Bj wk w o) rows=l at G0;unfold mF;have h2:=F7 (xs:=l) (body:=fun s:List Ac × Int=>RC l s.1 s.2) (fun i (o:List Ac)=>(o,i)) (fun o w=>if(!w.bh)=true then o++ [id w]else o) (fun o=>some o) (fun i o=>o.length≤i)
  (fun i hi o hI=>by
   have hI:o.length≤i:=hI;have hr:(((o).length:Int)+(([l[i]]:List Ac).length:Int))*40≤140737488355328∧((o).length:Int)+(([l[i]]:List Ac).length:Int)≤140737488355328:=by rw [AH];omega
   refine⟨?_,by show List.length _≤_;split;rw [Ar,AH];omega;omega⟩;show RC l o i=_;unfold RC;rw [if_pos (by simpa using hi),AN hi,Aa,Bl hi (by omega)];cases(!(l[i]).bh)with
   |false=>rfl
   |true=>rw [if_pos rfl,AT hr];rfl)
  (fun o _=>by show RC l o l.length=_;unfold RC;rw [if_neg (by simp)]) (s:= []) (Nat.le_refl _)
 refine h2.1.trans ?_;rw [SS (fun w:Ac=> !w.bh) id l []];simp
def Bg (st:List Ac) (ops:List Ay):List Ac × Bool:=if(FC st ops).2=true∧(Dh st (FC st ops).1).length≤24 then(Dh st (FC st ops).1,true)else(st,false)
theorem zyq {st:List Ac} {ops:List Ay} (hl:ops.length≤8) (ho: ∀o∈ops,Gn o) (hg:BZ st=true):Wa st ops=some (Bg st ops):=by
 obtain⟨hr,_⟩:=Eg hg;obtain⟨⟨g,e⟩,_,hw⟩:=s9 hl ho hr;have J3:=hr.len;have hq:((([]:List Ac).length:Int)+((st).length:Int))*40≤140737488355328∧(([]:List Ac).length:Int)+((st).length:Int)≤140737488355328:=by rw [List.length_nil];omega
 unfold Wa Bg;rw [e,Aa,zAP hr hw,Aa];cases h1:(FC st ops).2 with
 |false=>rw [if_pos (by simp),AT hq,if_neg (by simp)]
 |true=>
  by_cases h2:(Dh st (FC st ops).1).length>24
  ·rw [if_pos h2,if_pos (by simp),AT hq,if_neg (by omega)]
  ·rw [if_neg h2,if_neg (by simp),if_pos ⟨rfl,by omega⟩]
theorem zBx {ops:List Ay} (hl:ops.length≤8) (ho: ∀o∈ops,Gn o):aL ops=some true:=by
 have h1: ∀o:Ay,Gn o→aV o=some true:=by
  intro o h;have hk:=S3 h.key;have hv:=zxd h.val;unfold aV nV;rw [jJ (by omega),Aa,h.key,if_neg (by simp)];rcases h.kind with k|k|k|k
  ·rw [k];simp [jQ (s:=o.a7) (by omega),h.val,h.oj]
  ·have:=h.none (.inl k);rw [k];simp [this,h.oj]
  ·have:=h.none (.inr k);rw [k];simp [this,h.oj]
  ·rw [k];simp [jQ (s:=o.a7) (by omega),h.val,h.oj]
 unfold aL;rw [Kr (xs:=ops) (body:=fun s:Int=>Sp ops s) (fun _=>true) false (nC ops) (fun i hi=>by
  show Sp ops i=_;unfold Sp;rw [if_pos (by simpa using hi),AN hi,Aa,h1 _ (ho _ (List.getElem_mem hi)),Aa,if_neg (by simp),Bl hi (by omega),if_pos rfl]) (by
  show Sp ops ops.length=_;unfold Sp;rw [if_neg (by simp)]),if_pos (AJ.2 fun _ _=>rfl)]
 unfold nC;simp;omega
theorem Yh {st:List Ac} {ops:List Ay} (hl:ops.length≤8) (ho: ∀o∈ops,Gn o) (hg:BZ st=true):P1 st ops=some (Bg st ops):=by
 obtain⟨hr,_⟩:=Eg hg;obtain⟨_,⟨g,e⟩,hw⟩:=s9 hl ho hr;have J3:=hr.len;have hq:((([]:List Ac).length:Int)+((st).length:Int))*40≤140737488355328∧(([]:List Ac).length:Int)+((st).length:Int)≤140737488355328:=by rw [List.length_nil];omega
 have KI: ∀b:Bool,((([]:List Bool).length:Int)+(([b]:List Bool).length:Int))*1≤140737488355328∧(([]:List Bool).length:Int)+(([b]:List Bool).length:Int)≤140737488355328:=by intro b;rw [List.length_nil,AH];omega
 obtain⟨p1,p2,p3,p4⟩:=zxS hr hw;have hv7:KV (Dh st (FC st ops).1)=some (decide (((Dh st (FC st ops).1).length:Int)≤24)):=by rw [Ql (aN (by omega) p3),aX p1 p3 p4]
 have GJ:IntKind.i64.wrap ((0:Int)+1)=1:=by decide
 have key:Zw st [ops]=some ((Bg st ops).1, [(Bg st ops).2],true):=by
  unfold Zw;rw [Ql (aN (by omega) hr.bu),Aa,hg,if_neg (by simp)];have b0:PN st [ops] 0=some (.inl 1):=by unfold PN;rw [if_pos (by simp),show getI [ops] 0=some ops from rfl,Aa,zBx hl ho,Aa,if_neg (by simp),GJ]
  have b1:PN st [ops] 1=some (.inr (mA st [ops])):=by unfold PN;rw [if_neg (by simp)]
  rw [DM (body:=fun s:Int=>PN st [ops] s) b0,Dw (body:=fun s:Int=>PN st [ops] s) b1];unfold mA;rw [AT hq];have c0:PO [ops] [] 0 st=some (.inl ([(Bg st ops).2],1,(Bg st ops).1)):=by
   unfold PO Bg;rw [if_pos (by simp),show getI [ops] 0=some ops from rfl,Aa,e,Aa,zBz hr hw,Aa];cases h1:(FC st ops).2 with
   |false=>rw [if_neg (by simp),AT (KI _),if_neg (by simp),GJ];rfl
   |true=>
    rw [if_pos rfl,hv7,Aa];by_cases h2:(Dh st (FC st ops).1).length≤24
    ·have h3:decide (((Dh st (FC st ops).1).length:Int)≤24)=true:=by simp;omega
     rw [h3,if_pos rfl,AT (KI _),if_pos ⟨rfl,h2⟩,GJ];rfl
    ·have h3:decide (((Dh st (FC st ops).1).length:Int)≤24)=false:=by simp;omega
     rw [h3,if_neg (by simp),AT (KI _),if_neg (by omega),GJ];rfl
  have c1: ∀(bs:List Bool) (l:List Ac),PO [ops] bs 1 l=some (.inr (some (l,bs,true))):=by intro bs l;unfold PO;rw [if_neg (by simp)]
  rw [DM (body:=fun s:List Bool × Int × List Ac=>PO [ops] s.1 s.2.1 s.2.2) c0,Dw (body:=fun s:List Bool × Int × List Ac=>PO [ops] s.1 s.2.1 s.2.2) (c1 _ _)]
 unfold P1;rw [key,Aa,if_pos (by simp)];rfl
theorem Mg {st:List Ac} {ops:List Ay} (hl:ops.length≤8) (ho: ∀o∈ops,Gn o) (hg:BZ st=true):BZ (Bg st ops).1=true:=by
 obtain⟨hr,_⟩:=Eg hg;obtain⟨_,_,hw⟩:=s9 hl ho hr;obtain⟨p1,p2,p3,p4⟩:=zxS hr hw;unfold Bg;split
 ·rename_i h;show BZ (Dh st (FC st ops).1)=true;rw [aX p1 p3 p4];have:=h.2;simp;omega
 ·exact hg
theorem bC {c:UInt8}: ∀{p q:Af},(∀b∈p,b≠c)→B3 c (p++ [c]++q)=p::B3 c q:=fun{p q} h=>by rw [List.append_assoc];exact NR h
theorem Qx {b:UInt8} (h:Fi b=true):b≠47∧b≠44∧b≠46:=by refine⟨?_, ?_, ?_⟩<;>(rintro rfl;revert h;decide)
theorem zGv {t:Ad} {n:Af} (hg:A0 t=true) (hn:CG n 1=true): ∀b∈head t n,b≠47:=by
 intro b hb;unfold head at hb;simp only [Ai,List.mem_singleton]at hb;rcases hb with(hb|hb)|hb
 ·exact(Qx (SJ (K0 hg) b hb)).1
 ·subst hb;decide
 ·exact(Qx (SJ hn b hb)).1
theorem SX {t:Ad} {n:Af} {c:Int} {r:AD} (hg:A0 t=true) (hn:CG n 1=true) (h:Bd t r=true):B3 47 (Bv t n c r)= [head t n,C8 r c,C8 r 0]:=by unfold Bv;rw [show head t n++ [47]++C8 r c++ [47]++C8 r 0=head t n++ [47]++(C8 r c++ [47]++C8 r 0) by simp,bC (zGv hg hn),bC fun b hb=>(Qx (Ts h c b hb)).1,Ma fun b hb=>(Qx (Ts h 0 b hb)).1]
theorem IT (t:Ad) (r:AD):(AQ t r).af=t.ab++ [47]++C8 r 0:=by unfold AQ C8;rw [List.head?_eq_getElem?];rfl
theorem zxG {t:Ad} {r:AD} (hg:A0 t=true) (h:Bd t r=true):B3 47 (AQ t r).af= [t.ab,C8 r 0]:=by rw [IT,bC fun b hb=>(Qx (SJ (K0 hg) b hb)).1,Ma fun b hb=>(Qx (Ts h 0 b hb)).1]
theorem zwY {t:Ad} {n:Af} {r:AD} (hg:A0 t=true) (h:Bd t r=true):C4 t n (AQ t r).af=false:=by unfold C4;rw [zxG hg h]
theorem zx4 {t:Ad} {r:AD} {c:Int} (h:Bd t r=true) (h0:0≤c) (h1:c≤(t.ar.length:Int)-1):field (C8 r c)=true:=by
 unfold Bd at h;simp only [Ae,beq_iff_eq]at h;have hl:c.toNat<r.ax.length:=by have:=h.1;omega
 unfold C8;rw [List.getElem?_eq_getElem hl];exact AJ.1 h.2 _ (List.getElem_mem hl)
theorem P8 {t:Ad} {n m:Af} {c:Int} {r:AD} (hg:A0 t=true) (hm:CG m 1=true) (h:Bd t r=true) (h0:0≤c) (h1:c≤(t.ar.length:Int)-1):C4 t n (Bv t m c r)=decide (m=n):=by
 have hc:=Jt hg;unfold C4;rw [SX hg hm h];simp only [zx4 h h0 h1,zx4 h (show(0:Int)≤0 by omega) (by omega),Bool.and_true];rw [Bool.eq_iff_iff];simp only [beq_iff_eq,decide_eq_true_eq];unfold head;constructor
 ·intro e;exact List.append_cancel_left e
 ·rintro rfl;rfl
theorem ztA {t:Ad} {n:Af} {c:Int} {r r':AD} (hg:A0 t=true) (hn:CG n 1=true) (h:Bd t r=true) (h':Bd t r'=true) (e:Bv t n c r=Bv t n c r'):C8 r 0=C8 r' 0:=by have h1:=SX (c:=c) hg hn h;rw [e,SX hg hn h']at h1;simp only [List.cons.injEq,and_true]at h1;exact h1.2.2.symm
theorem Wi {t:Ad} {n:Af} {c:Int} {r r':AD} (hg:A0 t=true) (hn:CG n 1=true) (h:Bd t r=true) (h':Bd t r'=true):(AQ t r).af≠Bv t n c r':=by intro e;have h1:=zxG hg h;rw [e,SX hg hn h']at h1;simp at h1
theorem zBb {xs:List Af} (hx:xs≠ []) (h: ∀x∈xs,∀b∈x,b≠44):B3 44 (Lib.join xs [44])=xs:=by
 induction xs with
 |nil=>exact absurd rfl hx
 |cons x r ih=>
  cases r with
  |nil=>rw [Lib.join_one,Ma (h x (by simp))]
  |cons y r=>
   have e:Lib.join (x::y::r) [44]=x++ [44]++Lib.join (y::r) [44]:=by rw [Lib.join_cons,Lib.join_cons];simp [Lib.joinTail]
   rw [e,bC (h x (by simp)),ih (by simp) fun z hz=>h z (by simp [hz])]
theorem Tf {t:Ad} {r:AD} (hg:A0 t=true) (h:Bd t r=true):B5 (AQ t r)=r:=by
 have hc:=Jt hg;have hn:=SO (K0 hg);have hl:=h;unfold Bd at hl;simp only [Ae,beq_iff_eq]at hl;have hf:=qA h;obtain⟨vs⟩:=r;cases vs with
 |nil=>simp at hl;omega
 |cons v vs=>
  have A2:vs≠ []:=by rintro rfl;simp at hl;omega
  unfold B5 AQ;simp only [List.head?_cons,Option.getD_some,List.tail_cons];rw [zBb A2 fun x hx b hb=>(Qx (hf x (by simp [hx]) b hb)).2.1];congr 1;congr 1;have:(t.ab++ [47]++v).drop 2=v:=by rw [List.drop_append_of_le_length (by simp [hn])];rw [List.drop_of_length_le (by simp [hn])];rfl
  exact this
theorem jR {t:Ad} {r:AD} (hg:A0 t=true) (h:Bd t r=true):Co t (AQ t r)=true:=by unfold Co;rw [Tf hg h,h];unfold KB;simp
theorem Fw {t:Ad} {w:Ac} (h:Co t w=true):Bd t (B5 w)=true∧w=AQ t (B5 w):=by unfold Co KB at h;simp only [Ae,beq_iff_eq]at h;obtain⟨h1,h2,h3,h4⟩:=h;refine⟨h1, ?_⟩;cases w;cases hq:AQ t (B5 _);rename_i a b c d e f;rw [hq]at h2 h3 h4;simp only at h2 h3 h4;rw [h2,h3,h4]
def Is (t:Ad) (a:Bf):List Ac:=
 if a.aj=1 then [⟨(AQ t a.bw).af,(AQ t a.bw).a7,false⟩]else
 if a.aj=2 then [⟨(AQ t a.bq).af, [],true⟩]else [⟨(AQ t a.bq).af,(AQ t a.bw).a7,false⟩]
def GP (t:Ad) (a:Bf) (x:At):List Ac:=
 (if E5 t a x≠ []∧E5 t a x≠Ea t a x∧x.aq≥1 then [⟨E5 t a x, [],true⟩]else [])++(if Ea t a x≠ []∧x.aq≥2 then [⟨Ea t a x, [],false⟩]else [])
def D6 (t:Ad) (a:Bf):List Ac:=Is t a++t.ah.flatMap (GP t a)
def Qq (t:Ad) (a:Bf) (st st':List Ac):Prop:=
 ∀y,y∈st'↔y.bh=false∧(y∈D6 t a∨y∈st∧ ∀w∈D6 t a,w.af≠y.af)
def Yj (t:Ad) (a:Bf) (st:List Ac):Prop:=
 (a.aj=1→ ∀w∈st,w.af≠(AQ t a.bw).af)∧(a.aj≠1→AQ t a.bq∈st)
theorem GM {t:Ad} (h:A0 t=true):Di t:=by
 have hn:=(L9 (K0 h)).1;have h0:=h;unfold A0 at h;simp only [Ae,decide_eq_true_eq]at h;have hl:=B7.1 h.1.1.2.2;have hc:=h.1.1.2.1;refine⟨by omega,by omega,fun c hm=> ?_,by omega,fun x hx=> ?_⟩
 ·obtain⟨i,hi,rfl⟩:=List.mem_iff_getElem.1 hm;unfold Li at hc;have:=AJ.1 hc i (List.mem_range.2 hi);unfold Og at this;rw [List.getElem?_eq_getElem hi]at this;simp only [Option.getD_some,Ae]at this;have:=(L9 this.1).1;omega
 ·have:=(L9 (Ey h0 hx).1).1;omega
structure Lf (l:List Af):Prop where
 len:l.length≤10
 each: ∀s∈l,s.length≤10
theorem Lf.small {l:List Af} (h:Lf l):Small l:=⟨by have:=h.len;omega,by
 have h1:=qR h.each;have h2:=h.len;have h3:10*l.length≤100:=by omega
 omega⟩
theorem IQ {t:Ad} {r:AD} (hg:A0 t=true) (h:Bd t r=true):Lf r.ax∧2≤r.ax.length:=by
 have JJ:=Jt hg;have h4:t.ar.length≤4:=by have:=hg;unfold A0 at this;simp only [Ae,decide_eq_true_eq]at this;have:=B7.1 this.1.1.2.2;omega
 unfold Bd at h;rw [Ae,beq_iff_eq]at h;exact⟨⟨by omega,fun s hs=>by have:=rD (AJ.1 h.2 s hs);omega⟩,by omega⟩
theorem WJ {k v:Af} (h1:An k=true) (h2:Gj v=true):CV ⟨k,v,false⟩=true:=by unfold CV Ir;rw [h1,h2];rfl
theorem bA {t:Ad} {r:AD} (hg:A0 t=true) (h:Bd t r=true):Lj t r:=⟨by have h1:=h;unfold Bd at h1;rw [Ae,beq_iff_eq]at h1;omega,(IQ hg h).1.small⟩
theorem Kn {t:Ad} {l:List Ac} {r:AD} (h:r∈rows t l):Bd t r=true:=by unfold rows at h;obtain⟨w,hw,rfl⟩:=List.mem_map.1 h;exact(Fw (List.mem_filter.1 hw).2).1
theorem oW {t:Ad} {x:At} {r:AD} (hg:A0 t=true) (hx:x∈t.ah) (hr:Bd t r=true):IP t x r=some (Bv t x.ab x.bj r)∧CV ⟨Bv t x.ab x.bj r, [],false⟩=true:=by have hS:=GM hg;exact⟨WD hS.name (hS.idx x hx) (cT hg hx) (bA hg hr),WJ (Wl hg (Ey hg hx).1 hr) (by decide)⟩
theorem Ko {w:Ac} (h:CV w=true):FQ w:=⟨by have:=zxZ h;omega,by have:=bZ h;omega⟩
theorem Ll [Inhabited Ce] {c:Ap} {k:Int} (l:List Af) (hl:l≠ []) (h:A4 c k) (hk:k≤4611686018427387000):Bi (Ii c l) fun p=>p.1∈l∧A4 p.2 (k+2):=by unfold Ii;have ID:0<l.length:=List.length_pos_iff.2 hl;refine(DN l.length h hk).bind fun p ⟨hp,hc⟩=> ?_;exact Bi.bind (P:=fun y=>y∈l) (.getI hp.1 (hp.2.1 (by omega)) fun x hx=>hx) fun y hy=> .ret ⟨hy,hc⟩
def II:List Af:= [[105], [106], [109]]
structure zT (w:Int) (x:At):Prop where
 c1:1≤x.bj
 c2:x.bj≤w
 s0:0≤x.aq
 s3:x.aq≤3
structure TI (w:Int) (q:Nat) (l:List At):Prop where
 x: ∀x∈l,zT w x
 nm: ∀x∈l,x.ab∈II.take q
 up:l.Pairwise fun a b=>Op.bytesLess a.ab b.ab=true
 len:l.length≤q
theorem zHF: ∀{q:Nat},q<3→ ∀a∈II.take q,Op.bytesLess a ((II[q]?).getD [])=true:=by
 intro q hq;have:q=0∨q=1∨q=2:=by omega
 rcases this with rfl|rfl|rfl<;>decide
theorem w7 {q:Nat} {a:Af} (h:a∈II.take q):a∈II.take (q+1):=by rw [List.take_add_one];exact Ai.2 (.inl h)
theorem TI.add {w:Int} {q:Nat} {l:List At} {x:At} (h:TI w q l) (hq:q<3) (hx:zT w x) (hn:x.ab=(II[q]?).getD []):TI w (q+1) (l++ [x]):=by
 refine⟨fun y hy=> ?_,fun y hy=> ?_, ?_, ?_⟩
 ·rcases Ai.1 hy with hy|hy
  ·exact h.x y hy
  ·rw [List.mem_singleton.1 hy];exact hx
 ·rcases Ai.1 hy with hy|hy
  ·exact w7 (h.nm y hy)
  ·rw [List.mem_singleton.1 hy,hn,List.take_add_one];refine Ai.2 (.inr ?_);have:q<II.length:=hq;rw [List.getElem?_eq_getElem this];simp
 ·refine List.pairwise_append.2 ⟨h.up,List.pairwise_singleton _ _,fun a ha b hb=> ?_⟩;rw [List.mem_singleton.1 hb,hn];exact zHF hq _ (h.nm a ha)
 ·have:=h.len;rw [Ar,AH];omega
theorem TI.more {w:Int} {q:Nat} {l:List At} (h:TI w q l):TI w (q+1) l:=⟨h.x,fun y hy=>w7 (h.nm y hy),h.up,by have:=h.len;omega⟩
theorem zA6 {nm:Af} {cs:List Af} {l:List At} (hn:nm∈([[116], [117]]:List Af)) (hc:Li cs=true) (h2:2≤cs.length) (h4:cs.length≤4) (h:TI ((cs.length:Int)-1) 3 l):A0 ⟨nm,cs,l⟩=true:=by
 unfold A0;have e1:CG nm 1=true:=by simp only [Ag,List.not_mem_nil,or_false]at hn;rcases hn with rfl|rfl<;>decide
 have hl:=h.len;simp only [e1,hc,Bool.true_and,Ae,decide_eq_true_eq];refine⟨⟨B7.2 ⟨by omega,by omega⟩,by omega⟩,AJ.2 fun i hi=> ?_⟩;have hi:=List.mem_range.1 hi;unfold HT;have ex:(l[i]?).getD ⟨[],0,0⟩=l[i]:=by rw [List.getElem?_eq_getElem hi];rfl
 dsimp only;rw [ex];have hm:=List.getElem_mem hi;have hx:=h.x _ hm;have Ee:CG l[i].ab 1=true:=by have:=h.nm _ hm;have e:II.take 3=II:=rfl;rw [e]at this;unfold II at this;simp only [Ag,List.not_mem_nil,or_false]at this;rcases this with e|e|e<;>rw [e]<;>decide
 rw [Ee,B7.2 ⟨hx.c1,hx.c2⟩,B7.2 ⟨hx.s0,hx.s3⟩];simp only [Bool.true_and,Bool.or_eq_true,beq_iff_eq];by_cases h0:i=0
 ·exact .inl h0
 ·refine .inr ?_;have hp:i-1<l.length:=by omega
  have ep:(l[i-1]?).getD ⟨[],0,0⟩=l[i-1]:=by rw [List.getElem?_eq_getElem hp];rfl
  rw [ep];exact(List.pairwise_iff_getElem.1 h.up) (i-1) i hp hi (by omega)
def Ra:List Af:= [[107], [97], [98], [99,99]]
theorem cC {p:Int} (h0:0≤p) (h3:p<3):Li (Bn Ra 0 (IntKind.i64.wrap (2+p)))=true∧(((Bn Ra 0 (IntKind.i64.wrap (2+p))).length:Nat):Int)=2+p:=by
 rw [Bc (by omega) (by omega)];have:p=0∨p=1∨p=2:=by omega
 rcases this with rfl|rfl|rfl<;>exact⟨by decide,by decide⟩
theorem oQ [Inhabited Ce] {v2:Int × Ap} {q:Nat} {l:List At} {y:Af} {a:List Int} {b e k:Int} {t:Bool} (h0:0≤v2.1) (h3:v2.1<3) (hq:q<3) (hy:y=(II[q]?).getD []) (hl:TI (1+v2.1) q l) (hc:A4 ⟨a,b,e⟩ k) (hk:k≤4611686018427380000):
  Bi (Nv v2 q l y a b e t) fun o=> ∃(c:Ap) (l':List At),o= .inl (((q+1:Nat):Int),c.aw,c.bz,c.az,l')∧TI (1+v2.1) (q+1) l'∧A4 c (k+4):=by
 unfold Nv;have hw:=(cC h0 h3).2;unfold Ra at hw;have w1:IntKind.i64.wrap ((q:Int)+1)=((q+1:Nat):Int):=by rw [Bc (by omega) (by omega)];omega
 refine .ite (fun _=> ?_) fun _=> .ret ⟨⟨a,b,e⟩,l,by rw [w1],hl.more,hc.up (by omega)⟩;rw [hw,Bc (n:=2+v2.1-1) (by omega) (by omega)];refine(DN _ hc (by omega)).bind fun p ⟨hp,BX⟩=>(DN 4 BX (by omega)).bind fun r ⟨hr,JJ⟩=> ?_;have p2:=hp.2.1 (by omega);have r2:=hr.2.1 (by omega);have hlen:=hl.len;refine .req (by simp;omega) (.ret ⟨r.2,_,by rw [w1],hl.add hq ⟨?_, ?_,hr.1,by dsimp only;omega⟩ hy,JJ.up (by omega)⟩)
 ·dsimp only;rw [Bc (by omega) (by omega)];omega
 ·dsimp only;rw [Bc (by omega) (by omega)];omega
theorem WL [Inhabited Ce] {c:Ap} {k:Int} (h:A4 c k) (hk:k≤4611686018427370000):Bi (Jl c) fun p=>A0 p.1=true∧A4 p.2 (k+40):=by
 unfold Jl;refine(Ll _ (by simp) h (by omega)).bind fun n ⟨hn,hc⟩=>(DN 3 hc (by omega)).bind fun p ⟨hp,hd⟩=> ?_;have p2:=hp.2.1 (by omega);obtain⟨GJ,F1⟩:=cC hp.1 p2;unfold Ra at GJ F1;have w1:IntKind.i64.wrap (2+p.1)=2+p.1:=Bc (by omega) (by omega);refine .req ⟨by omega,by rw [w1];omega,by rw [w1];simp;omega⟩ (.req (by rw [F1];simp;omega) ?_);refine Mc (fun m s=> ∃q:Nat,s.1=(q:Int)∧q+m=3∧TI (1+p.1) q s.2.2.2.2∧A4 ⟨s.2.1,s.2.2.1,s.2.2.2.1⟩ (k+4+8*q)) (fun m s hI=> ?_) (n:=3) ⟨0,rfl,rfl,⟨by simp,by simp, .nil,by simp⟩,by simpa using hd.up (by omega)⟩;obtain⟨q,e1,e2,hT,ho⟩:=hI;obtain⟨s1,a,b,e,l⟩:=s;dsimp only at e1 hT ho ⊢;subst e1;unfold lC;have ec:(([([105]:Ab),([106]:Ab),([109]:Ab)]:List (Ab)).length:Int)=3:=rfl;rw [ec];refine .ite (fun Am=> ?_) fun ET=> ?_
 ·simp only [decide_eq_true_eq]at Am;have hq:q<3:=by omega
  have eg:getI [([105]:Ab),([106]:Ab),([109]:Ab)] (q:Int)=some ((II[q]?).getD []):=by
   have:q=0∨q=1∨q=2:=by omega
   rcases this with rfl|rfl|rfl<;>rfl
  rw [eg,Aa];refine(Hb 3 ho (by omega)).bind fun x hx=> .ite (fun _=> ?_) fun _=> .ite (fun _=> ?_) fun _=> ?_
  ·exact(oQ hp.1 p2 hq rfl hT hx (by omega)).mono fun o ho=>by obtain⟨c',l',rfl,ht,MJ⟩:=ho;exact⟨m-1,by omega,q+1,rfl,by omega,ht,MJ.up (by omega)⟩
  ·refine(Hb 8 hx (by omega)).bind fun z hz=> ?_;exact(oQ hp.1 p2 hq rfl hT hz (by omega)).mono fun o ho=>by obtain⟨c',l',rfl,ht,MJ⟩:=ho;exact⟨m-1,by omega,q+1,rfl,by omega,ht,MJ.up (by omega)⟩
  ·exact(oQ hp.1 p2 hq rfl hT hx (by omega)).mono fun o ho=>by obtain⟨c',l',rfl,ht,MJ⟩:=ho;exact⟨m-1,by omega,q+1,rfl,by omega,ht,MJ.up (by omega)⟩
 ·simp only [decide_eq_false_iff_not]at ET;have:q=3:=by omega
  subst this;refine .ret (.ret ⟨zA6 hn GJ (by omega) (by omega) ?_,ho.up (by omega)⟩);rw [F1,show 2+p.1-1=1+p.1 by omega];exact hT
theorem Xf [Inhabited Ce] {c:Ap} {k:Int} {t:Ad} (hg:A0 t=true) (h:A4 c k) (hk:k≤4611686018427380000):Bi (Nz c t) fun p=>Bd t p.1=true∧A4 p.2 (k+20):=by
 have JJ:=Jt hg;have h4:t.ar.length≤4:=by have:=hg;unfold A0 at this;simp only [Ae,decide_eq_true_eq]at this;have:=B7.1 this.1.1.2.2;omega
 unfold Nz;refine(Ll _ (by simp) h (by omega)).bind fun n ⟨hn,hc⟩=> ?_;have hf0:field n.1=true:=by simp only [Ag,List.not_mem_nil,or_false]at hn;rcases hn with e|e|e|e|e|e<;>rw [e]<;>decide
 refine Mc (fun m s=>s.2.2.2.length+m=t.ar.length∧(∀x∈s.2.2.2,field x=true)∧A4 ⟨s.1,s.2.1,s.2.2.1⟩ (k+2+4*s.2.2.2.length)) (fun m s hI=> ?_) (n:=t.ar.length-1) ⟨by simp;omega,by simpa using hf0,hc.up (by simp;omega)⟩;obtain⟨a,b,e,l⟩:=s;obtain⟨i1,i2,i3⟩:=hI;dsimp only at i1 i2 i3 ⊢;unfold ziD;refine .ite (fun Am=> ?_) fun ET=> ?_
 ·simp only [decide_eq_true_eq]at Am;refine(Ll _ (by simp) i3 (by omega)).bind fun x ⟨hx,hd⟩=> .req (by simp;omega) (.ret ⟨m-1,by omega,by simp;omega,fun z hz=> ?_, ?_⟩)
  ·dsimp only at hz;rcases Ai.1 hz with hz|hz
   ·exact i2 z hz
   ·rw [List.mem_singleton.1 hz];simp only [Ag,List.not_mem_nil,or_false]at hx;rcases hx with e|e|e|e|e<;>rw [e]<;>decide
  ·refine hd.up ?_;dsimp only;rw [Ar,AH];omega
 ·simp only [decide_eq_false_iff_not]at ET;refine .ret (.ret ⟨?_,i3.up (by omega)⟩);unfold Bd;rw [Ae,beq_iff_eq];exact⟨by dsimp only;omega,AJ.2 i2⟩
theorem Lf.set {l:List Af} {i:Nat} {s:Af} (h:Lf l) (hs:s.length≤10):Lf (l.set i s):=⟨by rw [List.length_set];exact h.len,fun x hx=>by
 rcases List.mem_or_eq_of_mem_set hx with hx|rfl
 ·exact h.each x hx
 ·exact hs⟩
theorem D9.mono {n m:Nat} {l:List Ac} (h:D9 n l) (hm:n≤m):D9 m l:=⟨h.cd,by have:=h.len;omega,h.bu⟩
theorem zIk [Inhabited Ce] {c:Ap} {k:Int} (h:A4 c k) (hk:k≤4611686018427387000):Bi (Y4 c) fun p=>An p.1=true∧A4 p.2 (k+2):=by unfold Y4;refine(Ll _ (by simp) h (by omega)).bind fun p ⟨hp,hc⟩=> .ret ⟨?_,hc⟩;simp only [Ag,List.not_mem_nil,or_false]at hp;dsimp only;rcases hp with e|e|e|e|e|e|e|e<;>rw [e]<;>decide
theorem zIx [Inhabited Ce] {c:Ap} {k:Int} (h:A4 c k) (hk:k≤4611686018427387000):Bi (Y5 c) fun p=>Gj p.1=true∧A4 p.2 (k+2):=by unfold Y5;refine(Ll _ (by simp) h (by omega)).bind fun p ⟨hp,hc⟩=> .ret ⟨?_,hc⟩;simp only [Ag,List.not_mem_nil,or_false]at hp;dsimp only;rcases hp with e|e|e|e|e|e|e<;>rw [e]<;>decide
def Iv (t:Ad) (l:List Ac):Nat:=(l.filter (Co t)).length
theorem rV {t:Ad} {w:Ac}: ∀l:List Ac,Iv t (Bj wk w l)≤Iv t l+(if Co t w=true then 1 else 0)
 | []=>by unfold Iv;rw [Bj,List.filter_cons];split<;>simp
 |z::l=>by
  have ih:=rV (t:=t) (w:=w) l;unfold Iv at ih ⊢;rw [Bj];split
  ·rw [List.filter_cons];split<;>simp
  ·split
   ·rw [List.filter_cons,List.filter_cons];split<;>split<;>(try simp only [Ao])<;>omega
   ·rw [List.filter_cons,List.filter_cons];split<;>(try simp only [Ao])<;>omega
theorem zuO {t:Ad} {x:At} {r:AD} (hg:A0 t=true) (hx:x∈t.ah) (hr:Bd t r=true) (l:List Ac):Iv t (Bj wk ⟨Bv t x.ab x.bj r, [],false⟩ l)≤Iv t l:=by
 have h:=rV (t:=t) (w:=⟨Bv t x.ab x.bj r, [],false⟩) l;rw [if_neg (fun BF=> ?_)]at h
 ·omega
 ·obtain⟨h1,h2⟩:=Fw BF;exact Wi hg (Ey hg hx).1 h1 hr (congrArg Ac.af h2).symm
structure De (n:Nat) (l:List Ac):Prop where
 ok:D9 n l
 live: ∀w∈l,w.bh=false
theorem De.len {n:Nat} {l:List Ac} (h:De n l):l.length≤n:=h.ok.len
theorem De.cd {n:Nat} {l:List Ac} (h:De n l):Da l:=h.ok.cd
theorem De.bu {n:Nat} {l:List Ac} (h:De n l): ∀w∈l,CV w=true:=h.ok.bu
theorem De.mono {n m:Nat} {l:List Ac} (h:De n l) (hm:n≤m):De m l:=⟨h.ok.mono hm,h.live⟩
theorem pJ {w y:Ac}: ∀{l:List Ac},y∈Bj wk w l→y=w∨y∈l
 | [],h=> .inl (by simpa [Bj]using h)
 |z::l,h=>by
  rw [Bj]at h;split at h
  ·rcases Ag.1 h with h|h
   ·exact .inl h
   ·exact .inr h
  ·split at h
   ·rcases Ag.1 h with h|h
    ·exact .inl h
    ·exact .inr (by simp [h])
   ·rcases Ag.1 h with h|h
    ·exact .inr (by simp [h])
    ·rcases pJ h with h|h
     ·exact .inl h
     ·exact .inr (by simp [h])
theorem Tk {n:Nat} {ws:List Ac} {w:Ac} (h:De n ws) (hw:CV w=true) (hl:w.bh=false):De (n+1) (Bj wk w ws):=⟨K3 h.ok hw,fun y hy=>by
 rcases pJ hy with rfl|hy
 ·exact hl
 ·exact h.live y hy⟩
theorem zzz [Inhabited Ce] {t:Ad} {c:Ap} {k:Int} {n m:Nat} {l:List Ac} (hl:De n l) (hm:Iv t l≤m) (hn:n≤1000) (h:A4 c k) (hk:k≤4611686018427380000):Bi (lM c.aw c.bz c.az l) fun p=>(De (n+1) p.1∧Iv t p.1≤m+1)∧A4 p.2 (k+6):=by unfold lM;have hlen:=hl.len;refine(Hb 6 (c:=⟨c.aw,c.bz,c.az⟩) h (by omega)).bind fun p hp=> .ite (fun _=> ?_) fun _=> .ret ⟨⟨hl.mono (by omega),by dsimp only;omega⟩,hp.up (by omega)⟩;refine(zIk hp (by omega)).bind fun q ⟨hq,hc⟩=>(zIx hc (by omega)).bind fun r ⟨hr,hd⟩=> ?_;rw [Ml (by omega) hl.cd,Aa];refine .ret ⟨⟨Tk hl (WJ hq hr) rfl, ?_⟩,hd.up (by omega)⟩;have:=rV (t:=t) (w:=⟨q.1,r.1,false⟩) l;split at this<;>(dsimp only;omega)
theorem zy7 [Inhabited Ce] {t:Ad} {q:Nat} {x:At} {c:Ap} {k:Int} {n m:Nat} {l:List Ac} (hg:A0 t=true) (hx:x∈t.ah) (hq:q≤3) (hl:De n l) (hm:Iv t l≤m) (hn:n≤1000) (h:A4 c k) (hk:k≤4611686018427370000):
  Bi (lO t q x c.aw c.bz c.az l) fun o=> ∃(c':Ap) (l':List Ac),o= .inl (((q+1:Nat):Int),c'.aw,c'.bz,c'.az,l')∧De (n+1) l'∧Iv t l'≤m∧A4 c' (k+30):=by
 unfold lO;have hlen:=hl.len;have w1:IntKind.i64.wrap ((q:Int)+1)=((q+1:Nat):Int):=by rw [Bc (by omega) (by omega)];omega
 refine(Hb 5 (c:=⟨c.aw,c.bz,c.az⟩) h (by omega)).bind fun p hp=> .ite (fun _=> ?_) fun _=> .ret ⟨p.2,l,by rw [w1],hl.mono (by omega),hm,hp.up (by omega)⟩;refine(Xf hg hp (by omega)).bind fun r ⟨hr,hc⟩=> ?_;obtain⟨e1,e2⟩:=oW hg hx hr;rw [e1,Aa,Ml (by omega) hl.cd,Aa];exact .ret ⟨r.2,_,by rw [w1],Tk hl e2 rfl,Nat.le_trans (zuO hg hx hr l) hm,hc.up (by omega)⟩
def Yn (q:Nat):Nat:=4+5*q
theorem zBE {t:Ad} (h:A0 t=true):t.ah.length≤3:=by unfold A0 at h;simp only [Ae,decide_eq_true_eq]at h;omega
theorem zyX [Inhabited Ce] {t:Ad} {c:Ap} {k:Int} {l:List Ac} (hg:A0 t=true) (hl:De 4 l) (h:A4 c k) (hk:k≤4611686018427360000):Bi (lD t c.aw c.bz c.az l) fun p=>(De 20 p.1∧Iv t p.1≤5)∧A4 p.2 (k+700):=by
 unfold lD;have hS:=GM hg;have h3:=zBE hg;refine Mc (fun m s=> ∃q:Nat,s.1=(q:Int)∧q+m=t.ah.length∧De (Yn q) s.2.2.2.2∧Iv t s.2.2.2.2≤4∧A4 ⟨s.2.1,s.2.2.1,s.2.2.2.1⟩ (k+200*q)) (fun m s hI=> ?_) (n:=t.ah.length) (by exact⟨0,rfl,by omega,hl,Nat.le_trans (List.length_filter_le _ _) hl.len,by simpa using h⟩);obtain⟨q,e1,e2,hT,hm,ho⟩:=hI;obtain⟨s1,a,b,e,l⟩:=s;dsimp only at e1 hT hm ho ⊢;subst e1;have hb:Yn q=4+5*q:=rfl;have hlen:=hT.len;unfold zhH;refine .ite (fun Am=> ?_) fun ET=> ?_
 ·simp only [decide_eq_true_eq]at Am;have hq:q<t.ah.length:=by omega
  rw [AN hq,Aa,Qh hS.name (by omega) (fun w hw=>Ko (hT.bu w hw)),Aa];have hx:=List.getElem_mem hq;have hR:(rows t l).length≤4:=by unfold rows;rw [List.length_map];exact hm
  generalize DK:rows t l=R at hR;have FR: ∀r∈R,Bd t r=true:=fun r hr=>Kn (l:=l) (by rw [DK];exact hr);refine Mc (fun j s=> ∃i:Nat,s.1=(i:Int)∧i+j=R.length∧De (Yn q+i) s.2.2.2.2∧Iv t s.2.2.2.2≤4∧A4 ⟨s.2.1,s.2.2.1,s.2.2.2.1⟩ (k+200*q+2*i)) (fun j s hJ=> ?_) (n:=R.length) (by exact⟨0,rfl,by omega,hT,hm,by simpa using ho⟩);obtain⟨i,f1,f2,gT,gm,go⟩:=hJ;obtain⟨s1,a,b,e,l'⟩:=s;dsimp only at f1 gT gm go ⊢;subst f1;have glen:=gT.len;unfold zhJ;refine .ite (fun Hy=> ?_) fun fG=> ?_
  ·simp only [decide_eq_true_eq]at Hy;have hi:i<R.length:=by omega
   have w1:IntKind.i64.wrap ((i:Int)+1)=((i+1:Nat):Int):=by rw [Bc (by omega) (by omega)];omega
   obtain⟨n1,n2⟩:=oW hg hx (FR _ (List.getElem_mem hi));rw [AN hi,Aa];refine(Hb 5 go (by omega)).bind fun p hp=> .ite (fun _=> ?_) fun _=> .ret ⟨j-1,by omega,i+1,w1,by omega,gT.mono (by omega),gm,hp.up (by omega)⟩;rw [n1,Aa,Ml (by omega) gT.cd,Aa];exact .ret ⟨j-1,by omega,i+1,w1,by omega,(Tk gT n2 rfl).mono (by omega),Nat.le_trans (zuO hg hx (FR _ (List.getElem_mem hi)) _) gm,hp.up (by omega)⟩
  ·simp only [decide_eq_false_iff_not]at fG;refine .ret ((zy7 (c:=⟨a,b,e⟩) hg hx (by omega) gT gm (by omega) go (by omega)).mono fun o ho2=> ?_);obtain⟨c',l2,rfl,z1,zm,z2⟩:=ho2;exact⟨m-1,by omega,q+1,rfl,by omega,z1.mono (by have:Yn (q+1)=4+5*(q+1):=rfl;omega),zm,z2.up (by omega)⟩
 ·refine .ret ((zzz (t:=t) (c:=⟨a,b,e⟩) hT hm (by omega) ho (by omega)).mono fun p hp=>⟨⟨hp.1.1.mono (by omega),hp.1.2⟩,hp.2.up (by omega)⟩)
theorem zEJ [Inhabited Ce] {t:Ad} {c:Ap} {k:Int} (hg:A0 t=true) (h:A4 c k) (hk:k≤4611686018427350000):Bi (YT c t) fun p=>(De 20 p.1∧Iv t p.1≤5)∧A4 p.2 (k+900):=by
 unfold YT;have hS:=GM hg;refine(DN 5 h (by omega)).bind fun p ⟨hp,hc⟩=> ?_;have p2:=hp.2.1 (by omega);obtain⟨m,hm⟩:=Int.eq_ofNat_of_zero_le hp.1;have hm4:m≤4:=by omega
 refine Mc (fun j s=>j≤4∧s.2.1=(j:Int)∧De (4-j) s.1∧A4 ⟨s.2.2.1,s.2.2.2.1,s.2.2.2.2⟩ (k+2+30*(4-j))) (fun j s hI=> ?_) (n:=m) (by exact⟨hm4,hm,⟨⟨.nil,by simp,by simp⟩,by simp⟩,hc.up (by omega)⟩);obtain⟨l,s1,a,b,e⟩:=s;obtain⟨i0,i1,i2,i3⟩:=hI;dsimp only at i1 i2 i3 ⊢;subst i1;have hlen:=i2.len;unfold zhL;refine .ite (fun Am=> ?_) fun ET=> ?_
 ·simp only [decide_eq_true_eq,gt_iff_lt]at Am;refine(Xf hg i3 (by omega)).bind fun r ⟨hr,hd⟩=> ?_;obtain⟨hs,h2⟩:=IQ hg hr;have A2:r.1.ax≠ []:=fun e=>by rw [e]at h2;simp at h2
  have hw:=NO hg hr;rw [K5 hS.name hs.small A2,Aa,Ml (by omega) i2.cd,Aa];refine .ret ⟨j-1,by omega,by omega, ?_,(Tk i2 (w:=AQ t r.1) (WJ hw.1 hw.2) rfl).mono (by omega),hd.up (by omega)⟩;dsimp only;rw [Bc (by omega) (by omega)];omega
 ·simp only [decide_eq_false_iff_not,gt_iff_lt]at ET;exact .ret ((zyX (c:=⟨a,b,e⟩) hg (i2.mono (by omega)) i3 (by omega)).mono fun p hp=>⟨hp.1,hp.2.up (by omega)⟩)
structure MG (l:List Ac):Prop where
 len:l.length≤100
 each: ∀w∈l,FQ w
theorem MG.small {l:List Ac} (h:MG l):Ld l:=⟨by have:=h.len;omega,fun w hw=>by have:=h.each w hw;unfold FQ at this;omega⟩
theorem ztb (w:Ac): ∀(l:List Ac),(Bj wk w l).length≤l.length+1
 | []=>by simp [Bj]
 |z::l=>by
  rw [Bj];split
  ·simp
  ·split
   ·simp
   ·have:=ztb w l;simp only [Ao];omega
theorem MG.put {l:List Ac} {w:Ac} (h:MG l) (hl:l.length≤99) (hw:FQ w):MG (Bj wk w l):=⟨by have:=ztb w l;omega,fun y hy=>by
 rcases pJ hy with rfl|hy
 ·exact hw
 ·exact h.each y hy⟩
theorem De.mc {n:Nat} {l:List Ac} (h:De n l) (hn:n≤100):MG l:=⟨by have:=h.len;omega,fun w hw=>Ko (h.bu w hw)⟩
theorem D9.mc {n:Nat} {l:List Ac} (h:D9 n l) (hn:n≤100):MG l:=⟨by have:=h.len;omega,fun w hw=>Ko (h.bu w hw)⟩
structure Qp (a:Bf):Prop where
 old:Lf a.bq.ax
 new:Lf a.bw.ax
theorem Qp.small {a:Bf} (h:Qp a):F9 a:=⟨h.old.small,h.new.small⟩
theorem KY:Lf []:=⟨by simp,by simp⟩
theorem qO [Inhabited Ce] {t:Ad} {c:Ap} {k:Int} {v:List Af} (hg:A0 t=true) (hv:Lf v) (Dt:2≤v.length) (h:A4 c k) (hk:k≤4611686018427340000):Bi (Y1 t c.aw c.bz c.az v) fun p=>Qp p.1∧A4 p.2 (k+30):=by
 unfold Y1;refine(DN 3 (c:=⟨c.aw,c.bz,c.az⟩) h (by omega)).bind fun p ⟨_,hc⟩=> .ite (fun _=> ?_) fun _=> .ite (fun _=> .ret ⟨⟨hv,KY⟩,hc.up (by omega)⟩) fun _=> ?_
 ·exact(Xf hg hc (by omega)).bind fun r ⟨hr,hd⟩=> .ret ⟨⟨KY,(IQ hg hr).1⟩,hd.up (by omega)⟩
 ·refine(Xf hg hc (by omega)).bind fun r ⟨hr,hd⟩=> ?_;obtain⟨hs,h2⟩:=IQ hg hr;obtain⟨y,ey,hy,_⟩:=IX (xs:=v) (i:=0) (by omega) (by omega);rw [ey,Aa];refine Bi.bind (P:=fun _=>True) (.getI (by omega) (by omega) fun _ _=>trivial) fun _ _=> .ret ⟨⟨hv,hs.set (hv.each y hy)⟩,hd.up (by omega)⟩
theorem zIe [Inhabited Ce] {t:Ad} {l:List Ac} {c:Ap} {k:Int} (hg:A0 t=true) (hl:MG l) (h:A4 c k) (hk:k≤4611686018427330000):Bi (Za c t l) fun p=>Qp p.1∧A4 p.2 (k+100):=by
 unfold Za;have hS:=GM hg;have hlen:=hl.len;rw [Qh hS.name (by omega) hl.each,Aa];have hR:=rows_len t l;refine(Xf hg h (by omega)).bind fun r ⟨hr,hc⟩=> .ite (fun ID=> ?_) fun _=> ?_
 ·simp only [decide_eq_true_eq]at ID;refine(Hb 4 hc (by omega)).bind fun u hu=> ?_;unfold Y0;refine .ite (fun _=> ?_) fun _=> ?_
  ·refine(DN _ (c:=⟨u.2.aw,u.2.bz,u.2.az⟩) hu (by omega)).bind fun i ⟨hi,hd⟩=> ?_;obtain⟨y,ey,hy,_⟩:=IX (xs:=rows t l) hi.1 (hi.2.1 (by omega));rw [ey,Aa];obtain⟨hs,h2⟩:=IQ hg (Kn hy);exact(qO hg hs h2 hd (by omega)).mono fun p hp=>⟨hp.1,hp.2.up (by omega)⟩
  ·obtain⟨hs,h2⟩:=IQ hg hr;exact(qO hg hs h2 hu (by omega)).mono fun p hp=>⟨hp.1,hp.2.up (by omega)⟩
 ·unfold Y0;refine .ite (fun hh=>by cases hh) fun _=> ?_;obtain⟨hs,h2⟩:=IQ hg hr;exact(qO hg hs h2 hc (by omega)).mono fun p hp=>⟨hp.1,hp.2.up (by omega)⟩
end Go.Proofs.YtbmbkgalkfmjdaaGreatDoor
end
section
namespace Go.Proofs.YtbmbkgalkfmjdaaGreatDoor
set_option maxRecDepth 100000
@[irreducible] def Gh (x:Nat):Nat:=(1442695040888963407+6364136223846793005*x) % 18446744073709551616
def Gg:Nat→Nat→Nat
 |0,x=>x
 |n+1,x=>Gg n (Gh x)
theorem zz1 (x:Nat):Gg 0 x=x:=rfl
theorem sD (n x:Nat):Gg (n+1) x=Gg n (Gh x):=rfl
theorem WV (m n x:Nat):Gg (m+n) x=Gg n (Gg m x):=by
 induction m generalizing x with
 |zero=>rw [Nat.zero_add,zz1]
 |succ m ih=>rw [Nat.add_right_comm,sD,sD,ih]
theorem yH (x:Nat):Gh x<18446744073709551616:=by unfold Gh;exact Nat.mod_lt _ (by decide)
def Pq (A C n:Nat):Prop:= ∀x,Gg n x=(x*A+C) % 18446744073709551616
theorem sZ {A C A' C' m n:Nat} (h:Pq A C m) (h':Pq A' C' n):Pq (A*A' % 18446744073709551616) ((C*A'+C') % 18446744073709551616) (m+n):=fun x=>by
 rw [WV,h x,h' _];have e: ∀y:Nat,(y % 18446744073709551616*A'+C') % 18446744073709551616=(y*A'+C') % 18446744073709551616:=fun y=>by rw [Nat.add_mod,Nat.mod_mul_mod,←Nat.add_mod]
 rw [e,Nat.add_mul,Nat.mul_assoc,Nat.add_assoc];rw [Nat.add_mod (x*(A*A')) _,Nat.add_mod (x*(A*A' % 18446744073709551616)) _,Nat.mod_mod,Nat.mul_mod_mod]
def Yu:Nat→Nat × Nat→Nat × Nat
 |0,p=>p
 |k+1,p=>Yu k (p.1*p.1 % 18446744073709551616,(p.2*p.1+p.2) % 18446744073709551616)
theorem w8: ∀(k n:Nat) (p:Nat × Nat),Pq p.1 p.2 n→Pq (Yu k p).1 (Yu k p).2 (n*2^k)
 |0,n,p,h=>by rw [Nat.pow_zero,Nat.mul_one];exact h
 |k+1,n,p,h=>by have h2:=w8 k (n+n) (p.1*p.1 % 18446744073709551616,(p.2*p.1+p.2) % 18446744073709551616) (sZ h h);rw [Nat.pow_succ,show n*(2^k*2)=(n+n)*2^k by rw [Nat.add_mul,Nat.mul_comm (2^k) 2,←Nat.mul_assoc,Nat.mul_comm n 2,Nat.mul_assoc,Nat.two_mul]];exact h2
def Vd:Nat:=211106232532992
def Em (x:Nat):Nat:=x/1099511627776 % 256
theorem zGE:Pq 9118381870541701121 9530672342678634496 Vd:=by
 have h1:Pq 6364136223846793005 1442695040888963407 1:=fun x=>by rw [sD,zz1];unfold Gh;rw [Nat.add_comm,Nat.mul_comm]
 have h3:=sZ (sZ h1 h1) h1;simp only [Nat.reduceMul,Nat.reduceMod,Nat.reduceAdd]at h3;have h:=w8 46 3 (793875393913628917,11166244414315200793) h3;have e:Yu 46 (793875393913628917,11166244414315200793)=(9118381870541701121,9530672342678634496):=by decide
 rw [e]at h;exact h
theorem zIg (z:Nat):Em (z % 18446744073709551616)=Em z:=by unfold Em;omega
theorem zI1 (x y:Nat):Em (x+9530672342678634496+281474976710656*y)=(Em x+192) % 256:=by unfold Em;omega
theorem yB {x:Nat}:Em (Gg Vd x)=(Em x+192) % 256:=by rw [zGE x,zIg,show x*9118381870541701121+9530672342678634496=x+9530672342678634496+281474976710656*(x*32395) by omega,zI1]
theorem zJ0 {x:Nat} (h0:Em x % 3=0) (h1:Em (Gg Vd x) % 3=0) (h2:Em (Gg Vd (Gg Vd x)) % 3=0):False:=by rw [yB]at h1 h2;rw [yB]at h2;have:Em x<256:=Nat.mod_lt _ (by decide);omega
end Go.Proofs.YtbmbkgalkfmjdaaGreatDoor
end
section
namespace Go.Proofs.YtbmbkgalkfmjdaaGreatDoor
open Go.RowKit
set_option maxRecDepth 100000
theorem Bi.and {α:Type} {o:Option α} {P Q:α→Prop} (h:Bi o P) (k:Bi o Q):Bi o fun x=>P x∧Q x:=by obtain⟨x,rfl,hx⟩:=h;obtain⟨y,e,hy⟩:=k;cases e;exact⟨x,rfl,hx,hy⟩
def sd (c:Ap):Prop:=0≤c.az∧c.az<18446744073709551616
def HV (c:Ap):Prop:=(c.aw.length:Int)≤c.bz∧sd c
def nx (c:Ap):Ap:=⟨c.aw,c.bz+1,(Gh c.az.toNat:Nat)⟩
theorem kF (x:Int):IntKind.u64.wrap x=x % 18446744073709551616:=by simp [IntKind.wrap,IntKind.bits,IntKind.signed]
theorem zJu (c:Ap):sd (nx c):=by
 have:=yH c.az.toNat
 unfold sd nx;dsimp only;omega
theorem Fz {c:Ap} (h:HV c):HV (nx c):=⟨by have:=h.1;unfold nx;dsimp only;omega,zJu c⟩
theorem zGw (a:Nat) (h:a<18446744073709551616):(BitVec.ofInt (IntKind.bits .u64) (Int.fdiv (a:Int) (2^(min ((40:Int)).toNat (IntKind.bits .u64))))&&&BitVec.ofInt (IntKind.bits .u64) 255).toNat=Em a:=by
 have e1:(2^(min ((40:Int)).toNat (IntKind.bits .u64)):Int)=((1099511627776:Nat):Int):=by decide
 have e2:Int.fdiv (a:Int) ((1099511627776:Nat):Int)=((a/1099511627776:Nat):Int):=by rw [Int.fdiv_eq_ediv_of_nonneg _ (by omega)];rfl
 rw [e1,e2,BitVec.toNat_and];have e3:(BitVec.ofInt (IntKind.bits .u64) ((a/1099511627776:Nat):Int)).toNat=a/1099511627776:=by
  rw [BitVec.ofInt_natCast,BitVec.toNat_ofNat];have:a/1099511627776<2^64:=by omega
  exact Nat.mod_eq_of_lt this
 have e4:(BitVec.ofInt (IntKind.bits .u64) 255).toNat=255:=by decide
 rw [e3,e4];have:(255:Nat)=2^8-1:=by decide
 rw [this,Nat.and_two_pow_sub_one_eq_mod];rfl
theorem zEm [Inhabited Ce] {c:Ap} {k:Int} (h:A4 c k) (hk:k≤4611686018427387904):Bi (PD c) fun p=>p.2.aw=c.aw∧p.2.bz=c.bz+1∧sd p.2∧(HV c→p.1=(Em (Gh c.az.toNat):Nat)∧p.2=nx c):=by
 obtain⟨hb,h0,h1⟩:=h;have w:IntKind.i64.wrap (c.bz+1)=c.bz+1:=Bc (by omega) (by omega);have XS: ∀x:Int,0≤IntKind.u64.wrap x∧IntKind.u64.wrap x<18446744073709551616:=fun x=>by rw [kF];exact⟨Int.emod_nonneg _ (by decide),Int.emod_lt_of_pos _ (by decide)⟩
 unfold PD;refine .ite (fun Am=> ?_) fun Am=> ?_
 ·simp only [decide_eq_true_eq]at Am;refine Bi.bind (P:=fun _=>True) (.getI h0 Am fun _ _=>trivial) fun y _=> .ite (fun _=> .ret ⟨rfl,w,XS _,fun he=> ?_⟩) fun _=> .ret ⟨rfl,w,XS _,fun he=> ?_⟩
  ·have:=he.1;omega
  ·have:=he.1;omega
 ·simp only [decide_eq_false_iff_not]at Am;have UH: ∀s:Int,0≤s→s<18446744073709551616→IntKind.u64.wrap ((IntKind.u64.wrap ((IntKind.u64.wrap (s*6364136223846793005))+(IntKind.u64.wrap 0)))+1442695040888963407)=(Gh s.toNat:Nat):=fun s s0 s1=>by
   unfold Gh;simp only [kF];omega
  refine .ite (fun hle=> ?_) fun hle=> ?_
  ·simp only [decide_eq_true_eq,w]at hle;refine .ret ⟨rfl,w,XS _,fun he=> ?_⟩;have:=he.1;omega
  ·refine .ret ⟨rfl,w,XS _,fun he=> ?_⟩;have hs:=UH c.az he.2.1 he.2.2;refine⟨?_, ?_⟩
   ·dsimp only;rw [hs,zGw _ (yH _)];have:Em (Gh c.az.toNat)<256:=Nat.mod_lt _ (by decide);have e:IntKind.u64.wrap (Em (Gh c.az.toNat):Nat)=(Em (Gh c.az.toNat):Nat):=by rw [kF];omega
    rw [e,Bc (by omega) (by omega)]
   ·unfold nx;dsimp only;rw [hs,w]
theorem Tg [Inhabited Ce] {c:Ap} {k:Int} (n:Int) (hn:2≤n) (XL:n≤200) (h:A4 c k) (hk:k≤4611686018427387000):Bi (Dx c n) fun p=>p.2.aw=c.aw∧p.2.bz=c.bz+1∧sd p.2∧(HV c→p.1=(Em (Gh c.az.toNat):Nat) % n∧p.2=nx c):=by
 unfold Dx;refine .ite (fun h1=> ?_) fun _=> ?_
 ·simp only [decide_eq_true_eq]at h1;omega
 ·refine(zEm h (by omega)).bind fun p ⟨p1,p2,p3,p4⟩=> .ite (fun h1=> ?_) fun _=> .req (by omega) (.ret ⟨p1,p2,p3,fun he=> ?_⟩)
  ·simp only [decide_eq_true_eq]at h1;omega
  ·obtain⟨q1,q2⟩:=p4 he;refine⟨?_,q2⟩;dsimp only;rw [q1,Int.tmod_eq_emod_of_nonneg (by omega)]
theorem zHC [Inhabited Ce] {c:Ap} {k:Int} (n:Int) (XL:n≤200) (h:A4 c k) (hs:sd c) (hk:k≤4611686018427387000):Bi (Dx c n) fun p=>p.2.aw=c.aw∧c.bz≤p.2.bz∧sd p.2:=by
 by_cases hn:2≤n
 ·exact(Tg n hn XL h hk).mono fun p ⟨a,b,d,_⟩=>⟨a,by omega,d⟩
 ·unfold Dx;refine .ite (fun _=> .ret ⟨rfl,Int.le_refl _,hs⟩) fun h1=> ?_;simp only [decide_eq_false_iff_not]at h1;omega
theorem xH [Inhabited Ce] {c:Ap} {k:Int} (n:Int) (hn:2≤n) (XL:n≤200) (h:A4 c k) (hk:k≤4611686018427387000):Bi (F4 c n) fun p=>p.2.aw=c.aw∧p.2.bz=c.bz+1∧sd p.2∧(HV c→p.1=decide ((Em (Gh c.az.toNat):Nat) % n=(0:Int))∧p.2=nx c):=by unfold F4;refine(Tg n hn XL h hk).bind fun p ⟨p1,p2,p3,p4⟩=> .ret ⟨p1,p2,p3,fun he=> ?_⟩;obtain⟨q1,q2⟩:=p4 he;refine⟨?_,q2⟩;dsimp only;rw [q1];rfl
structure zJ7 (c:Ap) (t:Ad) (c':Ap):Prop where
 code:c'.aw=c.aw
 at_:c.bz+1≤c'.bz
 o7:sd c'
 bare:HV c→t.ah= []→c'=nx (nx (nx (nx (nx (nx c)))))∧(Em (Gg 3 c.az.toNat)) % 3=0
structure Yp [Inhabited Ce] (c:Ap) (q:Nat) (l:List At) (d:Ap):Prop where
 code:d.aw=c.aw
 at_:c.bz+1≤d.bz
 o7:sd d
 ok:A4 d d.bz
 bare:HV c→l= []→(q=0→d=nx (nx c))∧(q=1→d=nx (nx (nx (nx c))))∧(q=2→d=nx (nx (nx (nx (nx c)))))∧(q=3→d=nx (nx (nx (nx (nx (nx c))))))∧(1≤q→(Em (Gg 3 c.az.toNat)) % 3=0)
theorem tA (c:Ap):(nx c).az.toNat=Gh c.az.toNat:=by unfold nx;dsimp only;omega
theorem A4.self [Inhabited Ce] {c:Ap} {k:Int} (h:A4 c k):A4 c c.bz:=⟨h.1,h.2.1,Int.le_refl _⟩
theorem zxi [Inhabited Ce] {c:Ap} {v2:Int × Ap} {q:Nat} {l:List At} {y:Af} {d:Ap} {t:Bool} (h0:0≤v2.1) (h3:v2.1<3) (hq:q<3) (hl:l.length≤q) (hd:d.aw=c.aw∧c.bz+1≤d.bz∧sd d∧A4 d d.bz) (hk:d.bz≤4611686018427380000)
  (hb:t=false→HV c→l= []→(q=0→d=nx (nx (nx (nx c))))∧(q=1→d=nx (nx (nx (nx (nx c)))))∧(q=2→d=nx (nx (nx (nx (nx (nx c))))))∧(Em (Gg 3 c.az.toNat)) % 3=0):
  Bi (Nv v2 q l y d.aw d.bz d.az t) fun o=> ∃(c':Ap) (l':List At),o= .inl (((q+1:Nat):Int),c'.aw,c'.bz,c'.az,l')∧l'.length≤q+1∧c'.bz≤d.bz+10∧Yp c (q+1) l' c':=by
 unfold Nv;obtain⟨d1,d2,d3,d4⟩:=hd;have hw:=(cC h0 h3).2;unfold Ra at hw;have w1:IntKind.i64.wrap ((q:Int)+1)=((q+1:Nat):Int):=by rw [Bc (by omega) (by omega)];omega
 refine .ite (fun _=> ?_) fun ht=> .ret ⟨d,l,by rw [w1],by omega,by omega,⟨d1,d2,d3,d4,fun he G2=> ?_⟩⟩
 ·rw [hw,Bc (n:=2+v2.1-1) (by omega) (by omega)];refine((zHC (c:=⟨d.aw,d.bz,d.az⟩) _ (by omega) d4 d3 (by omega)).and (DN _ d4 (by omega))).bind fun p ⟨⟨p1,p2,p3⟩,hp,pc⟩=>((Tg 4 (by omega) (by omega) pc (by omega)).and (DN 4 pc (by omega))).bind fun r ⟨⟨r1,r2,r3,_⟩,hr,rc⟩=> ?_;refine .req (by simp;omega) (.ret ⟨r.2,_,by rw [w1],by rw [Ar,AH];omega,by have:=rc.2.2;omega,⟨by rw [r1,p1];exact d1,by dsimp only at p2;omega,r3,rc.self,fun _ G2=> ?_⟩⟩);simp at G2
 ·obtain⟨b0,b1,b2,b3⟩:=hb ht he G2;exact⟨by omega,fun h=>b0 (by omega),fun h=>b1 (by omega),fun h=>b2 (by omega),fun _=>b3⟩
theorem qU [Inhabited Ce] {c:Ap} {k:Int} (h:A4 c k) (hk:k≤4611686018427370000):Bi (Jl c) fun p=>zJ7 c p.1 p.2:=by
 unfold Jl Ii;refine Bi.bind (P:=fun v=>v.2.aw=c.aw∧v.2.bz=c.bz+1∧sd v.2∧(HV c→v.2=nx c)) (((Tg 2 (by omega) (by omega) h (by omega)).and (DN 2 h (by omega))).bind fun v ⟨⟨a1,a2,a3,a4⟩,hv,_⟩=> ?_) fun n ⟨n1,n2,n3,n4⟩=> ?_
 ·exact Bi.bind (P:=fun _=>True) (.getI hv.1 (by have:=hv.2.1 (by omega);simpa using this) fun _ _=>trivial) fun _ _=> .ret ⟨a1,a2,a3,fun he=>(a4 he).2⟩
 have hc:A4 n.2 (c.bz+1):=⟨by rw [n1];exact h.1,by have:=h.2.1;omega,by omega⟩
 have uK:=h.2.2;have T4:=h.2.1;refine((Tg 3 (by omega) (by omega) hc (by omega)).and (DN 3 hc (by omega))).bind fun p ⟨⟨p1,p2,p3,p4⟩,hp,hd⟩=> ?_;have pp2:=hp.2.1 (by omega);obtain⟨GJ,F1⟩:=cC hp.1 pp2;unfold Ra at GJ F1;have w1:IntKind.i64.wrap (2+p.1)=2+p.1:=Bc (by omega) (by omega);refine .req ⟨by omega,by rw [w1];omega,by rw [w1];simp;omega⟩ (.req (by rw [F1];simp;omega) ?_);have Pc:Yp c 0 [] p.2:=⟨by rw [p1,n1],by omega,p3,hd.self,fun he _=>by have e1:=n4 he;have e2:=(p4 (by rw [e1];exact Fz he)).2;rw [e1]at e2;exact⟨fun _=>e2,by omega,by omega,by omega,by omega⟩⟩
 refine Mc (fun m s=> ∃q:Nat,s.1=(q:Int)∧q+m=3∧s.2.2.2.2.length≤q∧s.2.2.1≤c.bz+4+20*q∧Yp c q s.2.2.2.2 ⟨s.2.1,s.2.2.1,s.2.2.2.1⟩) (fun m s hI=> ?_) (n:=3) (by exact⟨0,rfl,rfl,by simp,by dsimp only;omega,Pc⟩);obtain⟨q,e1,e2,hl,hf,hT⟩:=hI;obtain⟨s1,a,b,e,l⟩:=s;dsimp only at e1 hl hf hT ⊢;subst e1;have Ax:=hT.ok;dsimp only at Ax;unfold lC;have ec:(([([105]:Ab),([106]:Ab),([109]:Ab)]:List (Ab)).length:Int)=3:=rfl;rw [ec];have fin: ∀(d:Ap) (t:Bool) (y:Af),q<3→d.aw=c.aw→b+1≤d.bz→d.bz≤b+2→sd d→(t=false→HV c→l= []→(q=0→d=nx (nx (nx (nx c))))∧(q=1→d=nx (nx (nx (nx (nx c)))))∧(q=2→d=nx (nx (nx (nx (nx (nx c))))))∧(Em (Gg 3 c.az.toNat)) % 3=0)→
   Bi (Nv p q l y d.aw d.bz d.az t) fun o=> ∃(c':Ap) (l':List At),o= .inl (((q+1:Nat):Int),c'.aw,c'.bz,c'.az,l')∧l'.length≤q+1∧c'.bz≤d.bz+10∧Yp c (q+1) l' c':=by
  intro d t y hq d1 d2 d3 d4 hb;have ha:=hT.at_;dsimp only at ha;exact zxi hp.1 pp2 hq hl ⟨d1,by omega,d4,⟨by rw [d1];exact h.1,by omega,Int.le_refl _⟩⟩ (by omega) hb
 refine .ite (fun Am=> ?_) fun ET=> ?_
 ·simp only [decide_eq_true_eq]at Am;have hq:q<3:=by omega
  have eg:getI [([105]:Ab),([106]:Ab),([109]:Ab)] (q:Int)=some ((II[q]?).getD []):=by
   have:q=0∨q=1∨q=2:=by omega
   rcases this with rfl|rfl|rfl<;>rfl
  rw [eg,Aa];have H3:=hT.code;dsimp only at H3;refine((xH 3 (by omega) (by omega) Ax (by omega)).and (Hb 3 Ax (by omega))).bind fun x ⟨⟨x1,x2,x3,x4⟩,hx⟩=> ?_;dsimp only at x1 x2;refine .ite (fun _=> ?_) fun Jj=> .ite (fun hi=> ?_) fun hi=> ?_
  ·refine(fin x.2 true _ hq (by rw [x1,H3]) (by omega) (by omega) x3 (fun h=>by cases h)).mono fun o ho=> ?_;obtain⟨c',l',rfl,g1,g2,g3⟩:=ho;exact⟨m-1,by omega,q+1,rfl,by omega,g1,by dsimp only;omega,g3⟩
  ·refine((xH 8 (by omega) (by omega) hx (by omega)).and (Hb 8 hx (by omega))).bind fun z ⟨⟨z1,z2,z3,z4⟩,hz⟩=> ?_;have QX:q=0:=by
    have:q=0∨q=1∨q=2:=by omega
    rcases this with h|h|h
    ·exact h
    ·rw [h]at hi;exact absurd hi (by decide)
    ·rw [h]at hi;exact absurd hi (by decide)
   refine(fin z.2 _ _ hq (by rw [z1,x1,H3]) (by omega) (by omega) z3 (fun UQ he G2=> ?_)).mono fun o ho=> ?_
   ·have hb:=(hT.bare he G2).1 QX;have CC:HV (⟨a,b,e⟩:Ap):=by rw [hb];exact Fz (Fz he)
    obtain⟨y1,y2⟩:=x4 CC;rw [hb]at y1 y2;have w2:=(z4 (by rw [y2];exact Fz (Fz (Fz he)))).2;rw [y2]at w2;refine⟨fun _=>w2,by omega,by omega, ?_⟩;rw [y1,tA,tA]at Jj;simp only [Bool.not_eq_false',decide_eq_true_eq]at Jj;show Em (Gh (Gh (Gh c.az.toNat))) % 3=0;omega
   ·obtain⟨c',l',rfl,g1,g2,g3⟩:=ho;exact⟨m-1,by omega,q+1,rfl,by omega,g1,by dsimp only;omega,g3⟩
  ·have hqn:q≠0:=fun h=>by rw [h]at hi;exact absurd hi (by decide)
   refine(fin x.2 false _ hq (by rw [x1,H3]) (by omega) (by omega) x3 (fun _ he G2=> ?_)).mono fun o ho=> ?_
   ·obtain⟨b0,b1,b2,b3,b4⟩:=hT.bare he G2;refine⟨by omega,fun h=> ?_,fun h=> ?_,b4 (by omega)⟩
    ·have hb:=b1 h;rw [hb]at x4;exact(x4 (Fz (Fz (Fz (Fz he))))).2
    ·have hb:=b2 h;rw [hb]at x4;exact(x4 (Fz (Fz (Fz (Fz (Fz he)))))).2
   ·obtain⟨c',l',rfl,g1,g2,g3⟩:=ho;exact⟨m-1,by omega,q+1,rfl,by omega,g1,by dsimp only;omega,g3⟩
 ·simp only [decide_eq_false_iff_not]at ET;have:q=3:=by omega
  subst this;refine .ret (.ret ⟨hT.code,hT.at_,hT.o7,fun he G2=> ?_⟩);obtain⟨_,_,_,b3,b4⟩:=hT.bare he G2;exact⟨b3 rfl,b4 (by omega)⟩
noncomputable def Jw:Nat→Ap→Option (Ad × Ap)
 |0,c=>Jl c
 |n+1,c=>(Jl c).bind fun p=>if p.1.ah.length=0 then Jw n p.2 else some p
theorem zxN [Inhabited Ce]: ∀(n:Nat) {c:Ap} {k:Int},A4 c k→k+40*n≤4611686018427360000→Bi (Jw n c) fun p=>A0 p.1=true∧A4 p.2 (k+40*(n+1))
 |0,c,k,h,hk=>(WL h (by omega)).mono fun p hp=>⟨hp.1,hp.2.up (by omega)⟩
 |n+1,c,k,h,hk=>by
  unfold Jw;refine(WL h (by omega)).bind fun p hp=> ?_;split
  ·exact(zxN n hp.2 (by omega)).mono fun q hq=>⟨hq.1,hq.2.up (by omega)⟩
  ·exact .ret ⟨hp.1,hp.2.up (by omega)⟩
theorem zuG [Inhabited Ce]: ∀(n:Nat) {c:Ap} {k:Int},A4 c k→k+40*n≤4611686018427360000→HV c→Bi (Jw n c) fun p=>p.1.ah= []→ ∀j≤n,Em (Gg (6*j+3) c.az.toNat) % 3=0
 |0,c,k,h,hk,he=>by
  refine(qU h (by omega)).mono fun p hp hl j hj=> ?_;have:j=0:=by omega
  subst this;exact(hp.bare he hl).2
 |n+1,c,k,h,hk,he=>by
  unfold Jw;refine((qU h (by omega)).and (WL h (by omega))).bind fun p ⟨hp,_,ho⟩=> ?_;split
  ·rename_i h0;have hl:p.1.ah= []:=List.eq_nil_of_length_eq_zero h0;obtain⟨b1,b2⟩:=hp.bare he hl;have he2:HV p.2:=by rw [b1];exact Fz (Fz (Fz (Fz (Fz (Fz he)))))
   refine(zuG n ho (by omega) he2).mono fun q hq OT j hj=> ?_;cases j with
   |zero=>exact b2
   |succ j=>have:=hq OT j (by omega);rw [b1]at this;simp only [tA]at this;rw [show 6*(j+1)+3=6+(6*j+3) by omega,WV];exact this
  ·rename_i h0;exact .ret fun hl=>absurd (by rw [hl];rfl) h0
theorem zsa [Inhabited Ce]: ∀(m n:Nat) {c:Ap} {k:Int},A4 c k→k+40*(m+n)≤4611686018427360000→sd c→(c.aw.length:Int)-c.bz≤m→(∀{c':Ap} {k':Int},A4 c' k'→k'+40*n≤4611686018427360000→HV c'→Bi (Jw n c') fun p=>p.1.ah≠ [])→Bi (Jw (m+n) c) fun p=>p.1.ah≠ []
 |0,n,c,k,h,hk,hs,hl,CC=>by rw [Nat.zero_add];exact CC h (by omega) ⟨by omega,hs⟩
 |m+1,n,c,k,h,hk,hs,hl,CC=>by
  rw [Nat.add_right_comm];unfold Jw;refine((qU h (by omega)).and (WL h (by omega))).bind fun p ⟨hp,_,ho⟩=> ?_;split
  ·have h1:=hp.at_;exact zsa m n ho (by omega) hp.o7 (by rw [hp.code];omega) CC
  ·rename_i h0;exact .ret fun hl=>h0 (by rw [hl];rfl)
def Q7:Nat:=70368744177664
theorem zAN [Inhabited Ce] {c:Ap} {k:Int} (h:A4 c k) (hk:k+40*Q7≤4611686018427360000) (he:HV c):Bi (Jw Q7 c) fun p=>p.1.ah≠ []:=by
 refine(zuG Q7 h hk he).mono fun p hp hl=> ?_;have h0:=hp hl 0 (by decide);have h1:=hp hl 35184372088832 (by decide);have h2:=hp hl 70368744177664 (by decide);refine zJ0 (x:=Gg 3 c.az.toNat) h0 ?_ ?_
 ·rw [←WV];exact h1
 ·rw [←WV,←WV];exact h2
theorem Xb {β:Type} {n:Nat} {r:Option β} {body:Int→Option (Int ⊕ Option β)} (hs: ∀i:Nat,i<n→body i=some (.inl ((i+1:Nat):Int))) (he:body n=some (.inr r)):AA body 0=r:=by
 match r with
 |none=>
  have key: ∀(m q:Nat),q+m=n→AA body (q:Int)=none:=by
   intro m
   induction m with
   |zero=>
    intro q hq;have:q=n:=by omega
    subst this;exact Dw he
   |succ m ih=>intro q hq;rw [DM (hs q (by omega))];exact ih (q+1) (by omega)
  exact key n 0 (by omega)
 |some b=>have h:=NS (n:=n) (body:=body) (fun _=>true) b (some b) (fun i hi=>by rw [if_pos rfl];exact hs i hi) he;rw [h];split<;>rfl
theorem zFe {xs:List Af} (h:xs.length≤2000000):aJ xs xs=some true:=by
 unfold aJ;rw [if_neg (by simp)];exact Xb (n:=xs.length) (fun i hi=>by
  show VB xs xs i=_;unfold VB;rw [if_pos (by simpa using hi),AN hi,Aa,Aa,if_neg (by simp),Bl hi (by omega)]) (by
  show VB xs xs _=_;unfold VB;rw [if_neg (by simp)])
theorem zFC {xs:List Int} (h:xs.length≤2000000):aE xs xs=some true:=by
 unfold aE;rw [if_neg (by simp)];exact Xb (n:=xs.length) (fun i hi=>by
  show VH xs xs i=_;unfold VH;rw [if_pos (by simpa using hi),AN hi,Aa,Aa,if_neg (by simp),Bl hi (by omega)]) (by
  show VH xs xs _=_;unfold VH;rw [if_neg (by simp)])
theorem zEe {xs:List Ac} (h:xs.length≤2000000):ZS xs xs=some true:=by
 unfold ZS;rw [if_neg (by simp)];exact Xb (n:=xs.length) (fun i hi=>by
  show VD xs xs i=_;unfold VD;rw [if_pos (by simpa using hi),AN hi,Aa,Aa,if_neg (by simp),Bl hi (by omega)]) (by
  show VD xs xs _=_;unfold VD;rw [if_neg (by simp)])
theorem zFn {t:Ad} (h:Di t):aQ t t=some true:=by
 have h1:=h.idxs;unfold aQ;rw [if_neg (by simp),zFe h.ig,Aa,if_neg (by simp)];exact Xb (n:=t.ah.length) (fun i hi=>by
  show VI t t i=_;unfold VI;rw [if_pos (by simpa using hi),AN hi,Aa,Aa,if_neg (by simp),Bl hi (by omega)]) (by
  show VI t t _=_;unfold VI;rw [if_neg (by simp)])
theorem zBX {xs:List Ad} (h:xs.length≤2000000) (ht: ∀t∈xs,Di t):Z5 xs xs=some true:=by
 unfold Z5;rw [if_neg (by simp)];exact Xb (n:=xs.length) (fun i hi=>by
  show VN xs xs i=_;unfold VN;rw [if_pos (by simpa using hi),AN hi,Aa,Aa,zFn (ht _ (List.getElem_mem hi)),Aa,if_neg (by simp),Bl hi (by omega)]) (by
  show VN xs xs _=_;unfold VN;rw [if_neg (by simp)])
structure zKe (t:Ad):Prop where
 name:t.ab.length≤9223372036854775807
 ig:t.ar.length≤9223372036854775807
 lr: ∀c∈t.ar,c.length≤9223372036854775807
 idxs:t.ah.length≤9223372036854775807
 idx: ∀x∈t.ah,x.ab.length≤9223372036854775807
def Hh (st:List Int):Int:=if st.contains 3 then 2 else if st.contains 0 then 0 else 1
theorem wT {xs:List Int} {k:Int} (h:xs.length≤2000000):We xs k=some (xs.contains k):=by
 have key: ∀(n q:Nat),q+n=xs.length→AA (fun s:Int=>Sy xs k s) (q:Int)=some ((xs.drop q).contains k):=by
  intro n
  induction n with
  |zero=>
   intro q hq;have:q=xs.length:=by omega
   subst this;rw [Fx];have e:Sy xs k xs.length=some (.inr (some false)):=by unfold Sy;rw [if_neg (by simp)]
   rw [e];simp
  |succ n ih=>
   intro q hq;have Am:q<xs.length:=by omega
   have ih2:=ih (q+1) (by omega);rw [Fx,List.drop_eq_getElem_cons Am,List.contains_cons];have e:Sy xs k q=some (if(xs[q]==k)=true then .inr (some true)else .inl ((q+1:Nat):Int)):=by unfold Sy;rw [if_pos (by simpa using Am),AN Am,Aa,Bl Am (by omega)];cases(xs[q]==k)<;>rfl
   rw [e];by_cases h1:(xs[q]==k)=true
   ·have h2:xs[q]=k:=by simpa using h1
    rw [if_pos h1];simp [h2]
   ·have h2:(k==xs[q])=false:=by
     rw [Bool.eq_false_iff];intro h3;exact h1 (by simp at h3 ⊢;omega)
    rw [if_neg h1,h2,Bool.false_or];exact ih2
 have:=key xs.length 0 (by omega);unfold We;simpa using this
theorem zGF {s:Au} {st:List Int} (hn:st.length=s.bp.length) (hl:st.length≤2000000) (hs: ∀(i:Nat) (hi:i<st.length),∃tb,GL s i=some tb∧Ki s tb=some st[i]):Zc s=some (Hh st):=by
 have key: ∀(n q:Nat) (v:Int),q+n=st.length→AA (fun x:Int × Int=>RO s x.1 x.2) (v,(q:Int))=some (if(st.drop q).contains 3 then 2 else if(st.drop q).contains 0 then 0 else v):=by
  intro n
  induction n with
  |zero=>
   intro q v hq;have:q=st.length:=by omega
   subst this;have e:RO s v st.length=some (.inr (some v)):=by unfold RO;rw [if_neg (by simp [hn])]
   rw [Fx];dsimp only;rw [e];simp
  |succ n ih=>
   intro q v hq;have Am:q<st.length:=by omega
   obtain⟨tb,e1,e2⟩:=hs q Am;have e:RO s v q=some (if(st[q]==3)=true then .inr (some 2)else if(st[q]==0)=true then .inl (0,((q+1:Nat):Int))else .inl (v,((q+1:Nat):Int))):=by unfold RO;rw [if_pos (by simp;omega),e1,Aa,e2,Aa,Bl Am (by omega)];cases(st[q]==3)<;>cases(st[q]==0)<;>rfl
   rw [Fx,List.drop_eq_getElem_cons Am,List.contains_cons,List.contains_cons];dsimp only;rw [e];by_cases h1:st[q]=3
   ·simp [h1]
   ·have i0:=ih (q+1) 0 (by omega);have iv:=ih (q+1) v (by omega);have h1a:(st[q]==3)=false:=by simpa using h1
    have h1b:((3:Int)==st[q])=false:=by simp;omega
    rw [h1a,h1b,Bool.false_or];by_cases h2:st[q]=0
    ·simp only [h2,beq_self_eq_true,Bool.true_or,if_true,AX,if_false];rw [i0];split<;>(try split)<;>rfl
    ·have h2a:(st[q]==0)=false:=by simpa using h2
     have h2b:((0:Int)==st[q])=false:=by simp;omega
     rw [h2a,h2b,Bool.false_or];exact iv
 have:=key st.length 0 1 (by omega);unfold Zc;simpa [Hh]using this
theorem zxC {s:Au} {st:List Int} (hn:st.length=s.bp.length) (hl:st.length≤2000000) (hs: ∀(i:Nat) (hi:i<st.length),∃y tb k x,getI s.bp i=some y∧getI s.ak y=some tb∧GO tb s.ab=some k∧getI tb.ah k=some x∧x.aq=st[i]):L6 s=some st:=by
 unfold L6;have h1:=F7 (xs:=st) (body:=fun x:List Int × Int=>RF s x.1 x.2) (fun i (o:List Int)=>(o,i)) (fun(o:List Int) x=>o++ [x]) (fun o=>some o) (fun i o=>o.length=i)
  (fun i hi o ho=>by
   refine⟨?_,by simp [ho]⟩;obtain⟨y,tb,k,x,e1,e2,e3,e4,e5⟩:=hs i hi;show RF s o i=_;unfold RF;have hq:((((o).length:Int)+(([x.aq]:List Int).length:Int))*8≤140737488355328∧((o).length:Int)+(([x.aq]:List Int).length:Int)≤140737488355328):=by rw [AH];omega
   rw [if_pos (by simp;omega),e1,Aa,e2,Aa,e3,Aa,e4,Aa,AT hq,Bl hi (by omega),e5])
  (fun o ho=>by show RF s o st.length=_;unfold RF;rw [if_neg (by simp [hn])]) (s:=([]:List Int)) rfl
 have h3:=h1.1;rw [show(fun(o:List Int) x=>o++ [x])=(fun o x=>o++ [id x])from rfl,rG,List.map_id,List.nil_append]at h3;exact h3
theorem xG {s:Au} {st:List Int} (hn:st.length=s.bp.length) (hl:st.length≤2000000) (hs: ∀(i:Nat) (hi:i<st.length),∃y tb k x,getI s.bp i=some y∧getI s.ak y=some tb∧GO tb s.ab=some k∧getI tb.ah k=some x∧x.aq=st[i]):V8 s=some (Hh st):=by unfold V8 Hh;rw [zxC hn hl hs,Aa,wT hl,Aa,wT hl,Aa];split<;>(try split)<;>rfl
theorem N4 {α:Type} {xs:List α} {i:Int} {x:α} (h:getI xs i=some x):0≤i∧xs[i.toNat]?=some x∧i<xs.length:=by
 unfold getI at h;split at h
 ·rename_i h0;have:=(List.getElem?_eq_some_iff.1 h).1;exact⟨h0,h,by omega⟩
 ·cases h
def C7 (t:Ad) (k c:Int):Ad:=⟨t.ab,t.ar,t.ah.set k.toNat {((t.ah[k.toNat]?).getD ⟨[],0,0⟩)with aq:=c}⟩
def Gk (a b:Int):Int:=if a<b then a+1 else a-1
def Fk:Nat→Int→Int→List Int
 |0,_,_=> []
 |f+1,a,b=>if a=b then []else Gk a b::Fk f (Gk a b) b
def way (t:Ad) (k a b:Int):List Ad:=t::(Fk 3 a b).map (C7 t k)
theorem sF: ∀(f:Nat) {a b:Int},0≤a→a≤3→0≤b→b≤3→ ∀c∈Fk f a b,0≤c∧c≤3
 |0,_,_,_,_,_,_,c,hc=>by simp [Fk]at hc
 |f+1,a,b,h1,h2,h3,h4,c,hc=>by
  unfold Fk at hc;split at hc
  ·simp at hc
  ·have hn:0≤Gk a b∧Gk a b≤3:=by unfold Gk;split<;>omega
   rcases Ag.1 hc with rfl|hc
   ·exact hn
   ·exact sF f hn.1 hn.2 h3 h4 c hc
theorem rB: ∀(f:Nat) (a b:Int),(Fk f a b).length≤f
 |0,_,_=>by simp [Fk]
 |f+1,a,b=>by
  unfold Fk;split
  ·simp
  ·have:=rB f (Gk a b) b;simp;omega
theorem rT {t:Ad} {k b:Int} {body:Int × List Ad→Option ((Int × List Ad) ⊕ Option (List Ad))} (H2:0≤b) (Gs:b≤3)
  (hs: ∀a o,0≤a→a≤3→a≠b→o.length≤100→body (a,o)=some (.inl (Gk a b,o++ [C7 t k (Gk a b)]))) (he: ∀o,body (b,o)=some (.inr (some o))):
  ∀(f:Nat) (a:Int) (o:List Ad),0≤a→a≤3→(a-b).natAbs≤f→o.length+f≤100→AA body (a,o)=some (o++(Fk f a b).map (C7 t k))
 |0,a,o,_,_,hf,_=>by
  have:a=b:=by omega
  subst this;rw [Fx,he];simp [Fk]
 |f+1,a,o,h0,h3,hf,ho=>by
  by_cases Lu:a=b
  ·subst Lu;rw [Fx,he];simp [Fk]
  ·rw [Fx,hs a o h0 h3 Lu (by omega)];have hn:0≤Gk a b∧Gk a b≤3∧(Gk a b-b).natAbs≤f:=by unfold Gk;split<;>omega
   have:=rT H2 Gs hs he f (Gk a b) (o++ [C7 t k (Gk a b)]) hn.1 hn.2.1 hn.2.2 (by simp;omega);simp only [this,Fk,if_neg Lu,List.map_cons,List.append_assoc,List.singleton_append]
theorem jO {t:Ad} (h:Di t):SE t=some t:=by unfold SE;have h1:=h.ig;have h2:=h.idxs;rw [AT (by simp;omega),AT (by simp;omega)]
theorem tH {t:Ad} (h:Di t):Sq t=some t:=by unfold Sq Vi lB;have h1:=h.ig;have h2:=h.idxs;rw [NW (by omega) (by omega),Aa,NW (by omega) (by omega),Aa]
theorem jD {t:Ad} {n:Af} {x:At} {c:Int} (h:Di t) (hx:EK t n x):SD t n c=some (C7 t (BH (fun y:At=>y.ab==n) t.ah) c):=by unfold SD C7;rw [jO h,Aa,Jx h,Aa,hx.at_,Aa,(N4 hx.at_).2.1];rfl
theorem yZ {t:Ad} {n:Af} {x:At} {c:Int} (h:Di t) (hx:EK t n x):Vk t n c=some (C7 t (BH (fun y:At=>y.ab==n) t.ah) c):=by unfold Vk C7;rw [tH h,Aa,Xe h,Aa,hx.at_,Aa,(N4 hx.at_).2.1];rfl
theorem zA {t:Ad} {n:Af} {x:At} {b:Int} (h:Di t) (hx:EK t n x) (h0:0≤x.aq) (h3:x.aq≤3) (H2:0≤b) (Gs:b≤3):Wc t n b=some (way t (BH (fun y:At=>y.ab==n) t.ah) x.aq b):=by
 unfold Wc;rw [jO h,Aa,Jx h,Aa,hx.at_,Aa];refine(rT (t:=t) (k:=BH (fun y:At=>y.ab==n) t.ah) H2 Gs ?_ ?_ 3 x.aq [t] h0 h3 (by omega) (by simp)).trans (by simp [way])
 ·intro a o QL TZ Lu ho;show VJ t n b a o=_;unfold VJ;rw [if_pos (by simpa using Lu)];have w1:IntKind.i64.wrap (a+1)=a+1:=Bc (by omega) (by omega);have w2:IntKind.i64.wrap (a-1)=a-1:=Bc (by omega) (by omega);by_cases Am:a<b
  ·rw [if_pos (by simpa using Am),w1,jD h hx,Aa,AT (by simp;omega)];simp [Gk,Am]
  ·rw [if_neg (by simpa using Am),w2,jD h hx,Aa,AT (by simp;omega)];simp [Gk,Am]
 ·intro o;show VJ t n b b o=_;unfold VJ;rw [if_neg (by simp)]
theorem zH3 {t:Ad} {n:Af} {x:At} {b:Int} (h:Di t) (hx:EK t n x) (h0:0≤x.aq) (h3:x.aq≤3) (H2:0≤b) (Gs:b≤3):YV t n b=some (way t (BH (fun y:At=>y.ab==n) t.ah) x.aq b):=by
 unfold YV Nx;rw [Xe h,Aa,hx.at_,Aa,Aa,tH h,Aa];refine(rT (t:=t) (k:=BH (fun y:At=>y.ab==n) t.ah) H2 Gs ?_ ?_ 3 x.aq [t] h0 h3 (by omega) (by simp)).trans (by simp [way])
 ·intro a o QL TZ Lu ho;show Vm t n b a o=_;unfold Vm;rw [if_pos (by simpa using Lu)];have w1:IntKind.i64.wrap (a+1)=a+1:=Bc (by omega) (by omega);have w2:IntKind.i64.wrap (a-1)=a-1:=Bc (by omega) (by omega);by_cases Am:a<b
  ·rw [if_pos (by simpa using Am),w1,yZ h hx,Aa,AT (by simp;omega)];simp [Gk,Am]
  ·rw [if_neg (by simpa using Am),w2,yZ h hx,Aa,AT (by simp;omega)];simp [Gk,Am]
 ·intro o;show Vm t n b b o=_;unfold Vm;rw [if_neg (by simp)]
theorem S5 {α β:Type} {xs ys:List α} (hl:xs.length=ys.length) {body:Int→Option (Int ⊕ Option β)} (p:α→α→Bool) (b:β) (fin:Option β)
  (hs: ∀(i:Nat) (hi:i<xs.length) (hj:i<ys.length),body i=some (if p xs[i] ys[i]=true then .inl ((i+1:Nat):Int)else .inr (some b))) (he:body xs.length=some (.inr fin)):AA body 0=if((xs.zip ys).all fun z=>p z.1 z.2)=true then fin else some b:=by
 have hz:(xs.zip ys).length=xs.length:=by simp [hl]
 have h1:=bT (xs:=xs.zip ys) (body:=body) (fun i (_:Unit)=>i) (fun z _=>some (if p z.1 z.2=true then .inl ()else .inr (some b))) (fun _=>fin)
  (fun i hi s=>by
   have CJ:i<xs.length:=by omega
   have QR:i<ys.length:=by omega
   rw [hs i CJ QR,List.getElem_zip];cases p xs[i] ys[i]<;>simp [MF]) (fun s=>by rw [hz];exact he) ()
 rw [s6 (fun z:α × α=>p z.1 z.2) b fun x _ s=>rfl]at h1;exact h1
theorem Qn {α γ:Type} {p:α→α→Bool} {f:α→γ} (h: ∀x y,p x y=true↔f x=f y): ∀{xs ys:List α},xs.length=ys.length→(((xs.zip ys).all fun z=>p z.1 z.2)=true↔xs.map f=ys.map f)
 | [], [],_=>by simp
 | [],_::_,h=>by simp at h
 |_::_, [],h=>by simp at h
 |x::xs,y::ys,hl=>by have:=Qn h (xs:=xs) (ys:=ys) (by simpa using hl);simp only [List.zip_cons_cons,List.all_cons,Ae,List.map_cons,List.cons.injEq,this,h]
def nc (x:At):Af × Int:=(x.ab,x.bj)
theorem xE {x y:At} (h1:nc x=nc y) (h2:x.aq=y.aq):x=y:=by cases x;cases y;simp [nc]at h1 h2;simp [h1,h2]
theorem sW: ∀{xs ys:List At},xs.map nc=ys.map nc→xs.map (·.aq)=ys.map (·.aq)→xs=ys
 | [], [],_,_=>rfl
 | [],_::_,h,_=>by simp at h
 |_::_, [],h,_=>by simp at h
 |x::xs,y::ys,h1,h2=>by simp only [List.map_cons,List.cons.injEq]at h1 h2;rw [xE h1.1 h2.1,sW h1.2 h2.2]
theorem qZ {a b:Ad} (h1:a.ab=b.ab) (h2:a.ar=b.ar) (h3:a.ah=b.ah):a=b:=by cases a;cases b;simp at h1 h2 h3;simp [h1,h2,h3]
theorem zAS {a b:Ad} (ha:Di a): ∃r,Zj a b=some r∧(r=true↔a.ab=b.ab∧a.ar=b.ar∧a.ah.map nc=b.ah.map nc):=by
 unfold Zj;by_cases h0:(((a.ab !=b.ab)||((a.ar.length:Int) !=(b.ar.length:Int)))||((a.ah.length:Int) !=(b.ah.length:Int)))=true
 ·rw [if_pos h0];refine⟨_,rfl,by simp, ?_⟩;rintro⟨h1,h2,h3⟩;have h4:=congrArg List.length h3;simp only [List.length_map]at h4;rw [h1,h2,h4]at h0;simp at h0
 ·rw [if_neg h0];simp only [Bool.or_eq_true,bne_iff_ne,ne_eq,not_or,Decidable.not_not,Int.natCast_inj]at h0;obtain⟨⟨h1,h2⟩,h3⟩:=h0;have hc:=ha.ig;have hi:=ha.idxs;rw [S5 (xs:=a.ar) (ys:=b.ar) h2 (fun x y=>x==y) false (YR a b) ?_ ?_]
  ·have hk:YR a b=some ((a.ah.zip b.ah).all fun z=>nc z.1==nc z.2):=by
    unfold YR;rw [S5 (xs:=a.ah) (ys:=b.ah) h3 (fun x y=>nc x==nc y) false (some true) ?_ ?_]
    ·cases((a.ah.zip b.ah).all fun z=>nc z.1==nc z.2)<;>rfl
    ·intro i CJ GZ;show Vs a b i=_;unfold Vs;rw [if_pos (by simpa using CJ),AN CJ,Aa,AN GZ,Aa,Bl CJ (by omega)];by_cases hq:nc a.ah[i]=nc b.ah[i]
     ·have EG:=hq;simp only [nc,Prod.mk.injEq]at EG;rw [if_neg (by simp [EG.1,EG.2]),if_pos (by simpa using hq)]
     ·have EG:=hq;simp only [nc,Prod.mk.injEq,not_and]at EG;rw [if_pos (by simp only [Bool.or_eq_true,bne_iff_ne,ne_eq];by_cases hz:a.ah[i].ab=b.ah[i].ab;exact .inr (EG hz);exact .inl hz),if_neg (by simpa using hq)]
    ·show Vs a b a.ah.length=_;unfold Vs;rw [if_neg (by simp)]
   have z1:=Qn (p:=fun x y:Af=>x==y) (f:=id) (by simp) h2;have z2:=Qn (p:=fun x y:At=>nc x==nc y) (f:=nc) (by simp) h3;rw [List.map_id,List.map_id]at z1;rw [hk];by_cases hz:((a.ar.zip b.ar).all fun z=>z.1==z.2)=true
   ·rw [if_pos hz];exact⟨_,rfl,by rw [z2];exact⟨fun h=>⟨h1,z1.1 hz,h⟩,fun h=>h.2.2⟩⟩
   ·rw [if_neg hz];exact⟨_,rfl,by simp,fun h=>absurd (z1.2 h.2.1) hz⟩
  ·intro i CJ GZ;show Vu a b i=_;unfold Vu;rw [if_pos (by simpa using CJ),AN CJ,Aa,AN GZ,Aa,Bl CJ (by omega)];by_cases hq:a.ar[i]=b.ar[i]
   ·rw [if_neg (by simp [hq]),if_pos (by simpa using hq)]
   ·rw [if_pos (by simpa using hq),if_neg (by simpa using hq)]
  ·show Vu a b a.ar.length=_;unfold Vu;rw [if_neg (by simp)]
structure Nk (t:Ad):Prop where
 len:t.ah.length≤3
 oz: ∀x∈t.ah,0≤x.aq∧x.aq≤3
theorem wF: ∀(l:List (At × At)) (s:Int),0≤s→(l.foldl (fun s z=>s+((z.1.aq-z.2.aq).natAbs:Int)) s=0↔s=0∧ ∀z∈l,z.1.aq=z.2.aq)
 | [],s,_=>by simp
 |z::l,s,h=>by
  rw [List.foldl_cons,wF l _ (by omega)];constructor
  ·rintro⟨h1,h2⟩;exact⟨by omega,fun y hy=>by
    rcases Ag.1 hy with rfl|hy
    ·omega
    ·exact h2 y hy⟩
  ·rintro⟨h1,h2⟩;have:=h2 z (by simp);exact⟨by omega,fun y hy=>h2 y (by simp [hy])⟩
theorem zxK: ∀{xs ys:List At},xs.length=ys.length→((∀z∈xs.zip ys,z.1.aq=z.2.aq)↔xs.map (·.aq)=ys.map (·.aq))
 | [], [],_=>by simp
 | [],_::_,h=>by simp at h
 |_::_, [],h=>by simp at h
 |x::xs,y::ys,hl=>by have:=zxK (xs:=xs) (ys:=ys) (by simpa using hl);simp only [List.zip_cons_cons,List.forall_mem_cons,this,List.map_cons,List.cons.injEq]
theorem zIy (d:Int) (h1: -3≤d) (h2:d≤3):aD d (IntKind.i64.wrap (0-d))=some (d.natAbs:Int):=by
 rw [Bc (by omega) (by omega)];unfold aD;by_cases h:d>0-d
 ·rw [if_pos (by simpa using h)];congr 1;omega
 ·rw [if_neg (by simpa using h)];congr 1;omega
theorem zJI {a b:Ad} (ha:Nk a) (hb:Nk b) (hl:a.ah.length=b.ah.length): ∃v,ZP a b=some v∧(v=0↔a.ah.map (·.aq)=b.ah.map (·.aq)):=by
 unfold ZP;have h3:=ha.len;have hz:(a.ah.zip b.ah).length=a.ah.length:=by simp [hl]
 have h1:=F7 (xs:=a.ah.zip b.ah) (body:=fun s:Int × Int=>Sf a b s.1 s.2) (fun i (s:Int)=>(s,i)) (fun(s:Int) z=>s+((z.1.aq-z.2.aq).natAbs:Int)) (fun s=>some s) (fun i s=>0≤s∧s≤3*(i:Int))
  (fun i hi s hs=>by
   have CJ:i<a.ah.length:=by omega
   have QR:i<b.ah.length:=by omega
   have ga:=ha.oz a.ah[i] (List.getElem_mem CJ);have gb:=hb.oz b.ah[i] (List.getElem_mem QR);rw [List.getElem_zip];refine⟨?_, ?_, ?_⟩
   ·show Sf a b s i=_;unfold Sf;rw [if_pos (by simpa using CJ),AN CJ,Aa,AN QR,Aa,Bc (n:=a.ah[i].aq-b.ah[i].aq) (by omega) (by omega),zIy _ (by omega) (by omega),Aa,Bl CJ (by omega),Bc (by omega) (by omega)]
   ·dsimp only;omega
   ·dsimp only;push_cast;omega)
  (fun s hs=>by show Sf a b s ((a.ah.zip b.ah).length:Int)=_;unfold Sf;rw [hz,if_neg (by simp)]) (s:=0) ⟨by omega,by omega⟩
 refine⟨_,h1.1, ?_⟩;rw [wF _ _ (by omega),←zxK hl];simp
def Iw (a b:Ad):Bool:=a.ab==b.ab&&(a.ar==b.ar&&(a.ah.map nc==b.ah.map nc&&a.ah.map (·.aq)==b.ah.map (·.aq)))
theorem Tn {a b:Ad}:Iw a b=true↔a=b:=by
 unfold Iw;simp only [Ae,beq_iff_eq];constructor
 ·rintro⟨h1,h2,h3,h4⟩;exact qZ h1 h2 (sW h3 h4)
 ·rintro rfl;simp
theorem zFl {a b:Ad} (ha:Di a):NB a b=some (Iw a b):=by
 have key: ∃r,NB a b=some r∧(r=true↔a=b):=by
  unfold NB;by_cases h1:(a.ab==b.ab)=true
  ·rw [if_pos h1];have TN:a.ab=b.ab:=by simpa using h1
   have e1: ∃r,Yz a.ar b.ar=some r∧(r=true↔a.ar=b.ar):=by
    unfold Yz;by_cases h2:((a.ar.length:Int) !=(b.ar.length:Int))=true
    ·rw [if_pos h2];exact⟨_,rfl,by simp,fun h=>by rw [h]at h2;simp at h2⟩
    ·rw [if_neg h2];have Xo:a.ar.length=b.ar.length:=by
      have:(a.ar.length:Int)=b.ar.length:=by simpa using h2
      omega
     rw [S5 (xs:=a.ar) (ys:=b.ar) Xo (fun x y=>x==y) false (some true) ?_ ?_]
     ·have z1:=Qn (p:=fun x y:Af=>x==y) (f:=id) (by simp) Xo;rw [List.map_id,List.map_id]at z1;rw [←z1];cases hz:((a.ar.zip b.ar).all fun z=>z.1==z.2)<;>exact⟨_,rfl,by simp⟩
     ·intro i CJ GZ;show Vf a.ar b.ar i=_;unfold Vf;have:=ha.ig;rw [if_pos (by simpa using CJ),AN CJ,Aa,AN GZ,Aa,Bl CJ (by omega)];by_cases hq:a.ar[i]=b.ar[i]
      ·rw [if_neg (by simp [hq]),if_pos (by simpa using hq)]
      ·rw [if_pos (by simpa using hq),if_neg (by simpa using hq)]
     ·show Vf a.ar b.ar a.ar.length=_;unfold Vf;rw [if_neg (by simp)]
   obtain⟨r1,e1,f1⟩:=e1;rw [e1,Aa];by_cases h2:r1=true
   ·rw [if_pos h2];have Xo:=f1.1 h2;have e2: ∃r,YA a.ah b.ah=some r∧(r=true↔a.ah=b.ah):=by
     unfold YA;by_cases h3:((a.ah.length:Int) !=(b.ah.length:Int))=true
     ·rw [if_pos h3];exact⟨_,rfl,by simp,fun h=>by rw [h]at h3;simp at h3⟩
     ·rw [if_neg h3];have TQ:a.ah.length=b.ah.length:=by
       have:(a.ah.length:Int)=b.ah.length:=by simpa using h3
       omega
      rw [S5 (xs:=a.ah) (ys:=b.ah) TQ (fun x y=>x.ab==y.ab&&(x.bj==y.bj&&(x.aq==y.aq))) false (some true) ?_ ?_]
      ·have z1:=Qn (p:=fun x y:At=>x.ab==y.ab&&(x.bj==y.bj&&(x.aq==y.aq))) (f:=id) (fun x y=>by
        simp only [Ae,beq_iff_eq,id];constructor
        ·rintro⟨k1,k2,k3⟩;exact xE (by simp [nc,k1,k2]) k3
        ·rintro rfl;simp) TQ
       rw [List.map_id,List.map_id]at z1;rw [←z1];cases((a.ah.zip b.ah).all fun z=>z.1.ab==z.2.ab&&(z.1.bj==z.2.bj&&(z.1.aq==z.2.aq)))<;>exact⟨_,rfl,by simp⟩
      ·intro i CJ GZ;show Vg a.ah b.ah i=_;unfold Vg;have:=ha.idxs;rw [if_pos (by simpa using CJ),AN CJ,Aa,AN GZ,Aa,Bl CJ (by omega)];cases(a.ah[i].ab==b.ah[i].ab&&(a.ah[i].bj==b.ah[i].bj&&(a.ah[i].aq==b.ah[i].aq)))<;>rfl
      ·show Vg a.ah b.ah a.ah.length=_;unfold Vg;rw [if_neg (by simp)]
    obtain⟨r2,e2,f2⟩:=e2;rw [e2,Aa];exact⟨_,rfl,by rw [f2];exact⟨fun h=>qZ TN Xo h,fun h=>by rw [h]⟩⟩
   ·rw [if_neg h2];exact⟨_,rfl,by simp,fun h=>absurd (f1.2 (by rw [h])) h2⟩
  ·rw [if_neg h1];exact⟨_,rfl,by simp,fun h=>by rw [h]at h1;simp at h1⟩
 obtain⟨r,e,f⟩:=key;rw [e];congr 1;rw [Bool.eq_iff_iff,f,Tn]
structure DS (s:Au):Prop where
 name:s.ab.length≤2000000
 ways:s.ak.length≤2000000
 way: ∀t∈s.ak,Di t
 at_:s.bp.length≤2000000
 store:Ld s.ao
theorem jG {t:Ad} (h:A0 t=true):Nk t:=by unfold A0 at h;simp only [Ae,decide_eq_true_eq]at h;refine⟨by omega,fun x hx=> ?_⟩;obtain⟨i,hi,rfl⟩:=List.mem_iff_getElem.1 hx;have h1:=AJ.1 h.2 i (List.mem_range.2 hi);unfold HT at h1;simp only [Ae,List.getElem?_eq_getElem hi,Option.getD_some]at h1;exact B7.1 h1.1.2
theorem zzT {α γ:Type} (f:α→γ): ∀(l:List α) (k:Nat) (d y:α),f y=f ((l[k]?).getD d)→(l.set k y).map f=l.map f
 | [],k,d,y,_=>rfl
 |x::l,0,d,y,h=>by simp only [List.getElem?_cons_zero,Option.getD_some]at h;simp [h]
 |x::l,k+1,d,y,h=>by simp only [List.getElem?_cons_succ]at h;simp [zzT f l k d y h]
theorem Wj (t:Ad) (k c:Int):(C7 t k c).ah.map (·.ab)=t.ah.map (·.ab):=zzT _ _ _ ⟨[],0,0⟩ _ rfl
theorem zDd {t:Ad} {k c:Int} (h:Nk t) (h0:0≤c) (h3:c≤3):Nk (C7 t k c):=by
 refine⟨by unfold C7;simpa using h.len,fun x hx=> ?_⟩;rcases List.mem_or_eq_of_mem_set hx with hx|rfl
 ·exact h.oz x hx
 ·exact⟨h0,h3⟩
theorem zzi {t:Ad} {k c:Int} (h:Di t):Di (C7 t k c):=by refine⟨h.name,h.ig,h.lr,by unfold C7;simpa using h.idxs,fun x hx=> ?_⟩;have h1:x.ab∈(C7 t k c).ah.map (·.ab):=List.mem_map.2 ⟨x,hx,rfl⟩;rw [Wj]at h1;obtain⟨y,hy,e⟩:=List.mem_map.1 h1;rw [←e];exact h.idx y hy
theorem zG2 {t:Ad} {k a b:Int} (hS:Di t) (h:Nk t) (QL:0≤a) (TZ:a≤3) (H2:0≤b) (Gs:b≤3): ∀w∈way t k a b,w.ah.map (·.ab)=t.ah.map (·.ab)∧Nk w∧Di w:=by
 intro w hw;rcases Ag.1 hw with rfl|hw
 ·exact⟨rfl,h,hS⟩
 ·obtain⟨c,hc,rfl⟩:=List.mem_map.1 hw;have:=sF 3 QL TZ H2 Gs c hc;exact⟨Wj t k c,zDd h this.1 this.2,zzi hS⟩
theorem zyh {xs ys:List At} {n:Af} (h:xs.map (·.ab)=ys.map (·.ab)):decide (BH (fun x:At=>x.ab==n) xs≥0)=decide (BH (fun x:At=>x.ab==n) ys≥0):=by
 rw [NY,NY];have e: ∀l:List At,(l.any fun x=>x.ab==n)=(l.map (·.ab)).any (· ==n):=fun l=>by rw [List.any_map];rfl
 rw [e,e,h]
def Ng:Ad:=⟨[], [], []⟩
def AM (s:Au):Ad:=(s.ak[0]?).getD Ng
def Ip (s:Au):Ad:=(s.ak[s.ak.length-1]?).getD Ng
def Ci (t:Ad) (n:Af):Int:=BH (fun y:At=>y.ab==n) t.ah
def BD (t:Ad) (n:Af):Int:=((t.ah[(Ci t n).toNat]?).getD ⟨[],0,0⟩).aq
def D8 (s:Au):List Ad:=way (AM s) (Ci (AM s) s.ab) (BD (AM s) s.ab) (BD (Ip s) s.ab)
theorem zET {t:Ad} {n:Af} {x:At} (h:EK t n x):BD t n=x.aq:=by unfold BD Ci;rw [(N4 h.at_).2.1];rfl
theorem Kp {s:Au} (h:1≤s.ak.length):getI s.ak 0=some (AM s)∧AM s∈s.ak:=by
 have h0:0<s.ak.length:=by omega
 have e:AM s=s.ak[0]:=by unfold AM;rw [List.getElem?_eq_getElem h0];rfl
 rw [e];exact⟨AN h0,List.getElem_mem h0⟩
theorem rU {s:Au} (h:1≤s.ak.length) (h4:s.ak.length≤4):getI s.ak (IntKind.i64.wrap ((s.ak.length:Int)-1))=some (Ip s)∧Ip s∈s.ak:=by
 have h0:s.ak.length-1<s.ak.length:=by omega
 have e:Ip s=s.ak[s.ak.length-1]:=by unfold Ip;rw [List.getElem?_eq_getElem h0];rfl
 have w:IntKind.i64.wrap ((s.ak.length:Int)-1)=((s.ak.length-1:Nat):Int):=by rw [Bc (by omega) (by omega)];omega
 rw [e,w];exact⟨AN h0,List.getElem_mem h0⟩
theorem Kt {t:Ad} {n:Af} (h:B6 t n=true): ∃x,EK t n x∧BD t n=x.aq∧0≤x.aq∧x.aq≤3∧A0 t=true:=by
 obtain⟨x,hx,_⟩:=dH h;have hg:A0 t=true:=by unfold B6 at h;simp only [Ae]at h;exact h.1
 have:=(jG hg).oz x (sH hx.at_);exact⟨x,hx,zET hx,this.1,this.2,hg⟩
theorem zHD {s:Au} (hS:DS s) (h1:1≤s.ak.length) (h4:s.ak.length≤4): ∃sw,Ss s=some sw∧(sw=true↔(∀t∈s.ak,B6 t s.ab=true)∧s.ak=D8 s):=by
 unfold Ss;obtain⟨e0,m0⟩:=Kp h1;obtain⟨e1,m1⟩:=rU h1 h4;have S0:=hS.way _ m0;have S1:=hS.way _ m1;rw [Iq,Aa,if_pos (B7.2 ⟨by omega,by omega⟩),e0,Aa,Qd S0,Aa];have no: ∀{t:Ad},t∈s.ak→B6 t s.ab≠true→(false=true↔(∀t∈s.ak,B6 t s.ab=true)∧s.ak=D8 s):=fun ht hn=>⟨by simp,fun h=>absurd (h.1 _ ht) hn⟩
 by_cases g0:A0 (AM s)=true
 ·rw [if_pos g0,Jx S0,Aa];by_cases k0:BH (fun x:At=>x.ab==s.ab) (AM s).ah<0
  ·rw [if_pos (by simpa using k0)];exact⟨_,rfl,no m0 (by unfold B6;intro hq;rw [Ae,decide_eq_true_eq]at hq;omega)⟩
  ·rw [if_neg (by simpa using k0),e1,Aa,Qd S1,Aa];by_cases g1:A0 (Ip s)=true
   ·rw [if_pos g1,Jx S1,Aa];by_cases k1:BH (fun x:At=>x.ab==s.ab) (Ip s).ah<0
    ·rw [if_pos (by simpa using k1)];exact⟨_,rfl,no m1 (by unfold B6;intro hq;rw [Ae,decide_eq_true_eq]at hq;omega)⟩
    ·rw [if_neg (by simpa using k1),Aa];have H0:B6 (AM s) s.ab=true:=by unfold B6;simp only [Ae,decide_eq_true_eq];exact⟨g0,by omega⟩
     have H1:B6 (Ip s) s.ab=true:=by unfold B6;simp only [Ae,decide_eq_true_eq];exact⟨g1,by omega⟩
     obtain⟨x,hx,sx,x0,x3,_⟩:=Kt H0;obtain⟨y,hy,sy,y0,y3,_⟩:=Kt H1;rw [hy.at_,Aa,zA S0 hx x0 x3 y0 y3,Aa];have hW:way (AM s) (BH (fun y:At=>y.ab==s.ab) (AM s).ah) x.aq y.aq=D8 s:=by unfold D8 Ci;rw [sx,sy]
     rw [hW];have hM:=zG2 (t:=AM s) (k:=Ci (AM s) s.ab) (a:=BD (AM s) s.ab) (b:=BD (Ip s) s.ab) S0 (jG g0) (by omega) (by omega) (by omega) (by omega);have hM: ∀w∈D8 s,w.ah.map (·.ab)=(AM s).ah.map (·.ab)∧Nk w∧Di w:=hM;by_cases hl:((D8 s).length:Int) !=(s.ak.length:Int)
     ·rw [if_pos hl];exact⟨_,rfl,by simp,fun h=>by rw [←h.2]at hl;simp at hl⟩
     ·rw [if_neg hl];have BL:(D8 s).length=s.ak.length:=by
       have:((D8 s).length:Int)=(s.ak.length:Int):=by simpa using hl
       omega
      rw [S5 (xs:=D8 s) (ys:=s.ak) BL (fun w y=>A0 y&&Iw w y) false (some true) ?_ ?_]
      ·have z1:=Qn (p:=Iw) (f:=id) (fun x y=>Tn) BL;rw [List.map_id,List.map_id]at z1;have z2:((D8 s).zip s.ak).all (fun z=>A0 z.2)=s.ak.all A0:=by
        have:=List.map_snd_zip (l₁:=D8 s) (l₂:=s.ak) (by omega)
        conv=>rhs;rw [←this]
        rw [List.all_map];rfl
       have z3:(((D8 s).zip s.ak).all fun z=>A0 z.2&&Iw z.1 z.2)=(s.ak.all A0&&((D8 s).zip s.ak).all fun z=>Iw z.1 z.2):=by rw [←z2];rw [Bool.eq_iff_iff];simp only [AJ,Ae];exact⟨fun h=>⟨fun z hz=>(h z hz).1,fun z hz=>(h z hz).2⟩,fun h z hz=>⟨h.1 z hz,h.2 z hz⟩⟩
       have key:(((D8 s).zip s.ak).all fun z=>A0 z.2&&Iw z.1 z.2)=true↔(∀t∈s.ak,B6 t s.ab=true)∧s.ak=D8 s:=by
        rw [z3,Ae,z1];constructor
        ·rintro⟨a1,a2⟩;refine⟨fun t ht=> ?_,a2.symm⟩;have q1:=AJ.1 a1 t ht;rw [←a2]at ht;have q2:=zyh (n:=s.ab) (hM t ht).1;unfold B6 at H0 ⊢;simp only [Ae]at H0 ⊢;exact⟨q1,by rw [q2];exact H0.2⟩
        ·rintro⟨a1,a2⟩;exact⟨AJ.2 fun t ht=>by have:=a1 t ht;unfold B6 at this;simp only [Ae]at this;exact this.1,a2.symm⟩
       by_cases hz:(((D8 s).zip s.ak).all fun z=>A0 z.2&&Iw z.1 z.2)=true
       ·rw [if_pos hz];exact⟨_,rfl,fun _=>key.1 hz,fun _=>rfl⟩
       ·rw [if_neg hz];exact⟨_,rfl,by simp,fun h=>absurd (key.2 h) hz⟩
      ·intro i hi hj;show VK s (D8 s) i=_;unfold VK;have Sj:=hS.way _ (List.getElem_mem hj);obtain⟨_,Ti,Si⟩:=hM _ (List.getElem_mem hi);rw [if_pos (by simpa using hi),AN hj,Aa,Qd Sj,Aa];by_cases gj:A0 s.ak[i]=true
       ·rw [if_pos gj,AN hi,Aa];obtain⟨r,er,fr⟩:=zAS (a:=(D8 s)[i]) (b:=s.ak[i]) Si;rw [er,Aa];by_cases hr:r=true
        ·rw [if_pos hr];obtain⟨c1,c2,c3⟩:=fr.1 hr;have c4:=congrArg List.length c3;simp only [List.length_map]at c4;obtain⟨v,ev,fv⟩:=zJI Ti (jG gj) c4;rw [ev,Aa,Bl hi (by omega)];by_cases hv:v=0
         ·have:=Tn.2 (qZ c1 c2 (sW c3 (fv.1 hv)));rw [if_neg (by simp [hv]),if_pos (by rw [gj,this];rfl)]
         ·rw [if_pos (by simpa using hv),if_neg (by simp only [Ae,not_and];intro _ h;rw [Tn.1 h]at fv;exact hv (fv.2 rfl))]
        ·rw [if_neg hr,if_neg (by simp only [Ae,not_and];intro _ h;rw [Tn.1 h]at fr;exact hr (fr.2 ⟨rfl,rfl,rfl⟩))]
       ·rw [if_neg gj,if_neg (by simp [gj])]
      ·show VK s (D8 s) (D8 s).length=_;unfold VK;rw [if_neg (by simp)]
   ·rw [if_neg g1];exact⟨_,rfl,no m1 (by unfold B6;simp [g1])⟩
 ·rw [if_neg g0];exact⟨_,rfl,no m0 (by unfold B6;simp [g0])⟩
theorem zHw {xs:List Int} {a b:Int} (h:xs.length≤2000000):Z9 xs a b=some (xs.all fun y=>BP y a b):=by
 unfold Z9;have h1:=bT (xs:=xs) (body:=fun s:Int=>Sb xs a b s) (fun i (_:Unit)=>i) (fun y _=>some (if BP y a b=true then .inl ()else .inr (some false))) (fun _=>some true)
  (fun i hi s=>by
   show Sb xs a b i=_;unfold Sb;rw [if_pos (by simpa using hi),AN hi,Aa,Iq,Aa,Bl hi (by omega)];cases BP xs[i] a b<;>simp [MF]) (fun s=>by
   show Sb xs a b xs.length=_;unfold Sb;rw [if_neg (by simp)]) ()
 rw [s6 (fun y=>BP y a b) false fun x _ s=>rfl]at h1;refine h1.trans ?_;cases(xs.all fun y=>BP y a b)<;>rfl
def BR (s:Au):Prop:=1≤s.ak.length∧s.ak.length≤4∧(∀t∈s.ak,B6 t s.ab=true)∧s.ak=D8 s∧BP s.bp.length 1 3=true∧(∀y∈s.bp,0≤y∧y≤(s.ak.length:Int)-1)∧BZ s.ao=true
theorem yN {s:Au}:(s.bp.all fun y=>BP y 0 ((s.ak.length:Int)-1))=true↔ ∀y∈s.bp,0≤y∧y≤(s.ak.length:Int)-1:=by rw [AJ];exact⟨fun h y hy=>B7.1 (h y hy),fun h y hy=>B7.2 (h y hy)⟩
theorem s7 {s:Au} (hS:DS s): ∃g,Sg s=some g∧(g=true↔BR s):=by
 unfold Sg;by_cases h:1≤s.ak.length∧s.ak.length≤4
 ·obtain⟨sw,e,f⟩:=zHD hS h.1 h.2;rw [e,Aa];have w:IntKind.i64.wrap ((s.ak.length:Int)-1)=(s.ak.length:Int)-1:=Bc (by omega) (by omega);by_cases hw:sw=true
  ·rw [if_pos hw,Iq,Aa];by_cases h2:BP s.bp.length 1 3=true
   ·rw [if_pos h2,w,zHw hS.at_,Aa];by_cases h3:(s.bp.all fun y=>BP y 0 ((s.ak.length:Int)-1))=true
    ·rw [if_pos h3,Ql hS.store,Aa];exact⟨_,rfl,fun h5=>⟨h.1,h.2,(f.1 hw).1,(f.1 hw).2,h2,yN.1 h3,h5⟩,fun h5=>h5.2.2.2.2.2.2⟩
    ·rw [if_neg h3];exact⟨_,rfl,by simp,fun h5=>absurd (yN.2 h5.2.2.2.2.2.1) h3⟩
   ·rw [if_neg h2];exact⟨_,rfl,by simp,fun h5=>absurd h5.2.2.2.2.1 h2⟩
  ·rw [if_neg hw];exact⟨_,rfl,by simp,fun h5=>absurd (f.2 ⟨h5.2.2.1,h5.2.2.2.1⟩) hw⟩
 ·have e:Ss s=some false:=by
   unfold Ss;rw [Iq,Aa,if_neg (by rw [B7];omega)]
  rw [e,Aa,if_neg (by simp)];exact⟨_,rfl,by simp,fun h5=>absurd ⟨h5.1,h5.2.1⟩ h⟩
theorem zCf {xs ys:List Ad} (h: ∀t∈xs,Di t) (hl:xs.length≤2000000): ∃r,Yv xs ys (fun a b=>NB a b)=some r∧(r=true↔xs=ys):=by
 unfold Yv;by_cases h3:((xs.length:Int) !=(ys.length:Int))=true
 ·rw [if_pos h3];exact⟨_,rfl,by simp,fun h=>by rw [h]at h3;simp at h3⟩
 ·rw [if_neg h3];have TQ:xs.length=ys.length:=by
   have:(xs.length:Int)=ys.length:=by simpa using h3
   omega
  rw [S5 (xs:=xs) (ys:=ys) TQ Iw false (some true) ?_ ?_]
  ·have z1:=Qn (p:=Iw) (f:=id) (fun x y=>Tn) TQ;rw [List.map_id,List.map_id]at z1;rw [←z1];cases((xs.zip ys).all fun z=>Iw z.1 z.2)<;>exact⟨_,rfl,by simp⟩
  ·intro i CJ GZ;show Vh xs ys (fun a b=>NB a b) i=_;unfold Vh;rw [if_pos (by simpa using CJ),AN CJ,Aa,AN GZ,Aa,Bl CJ (by omega)];dsimp only;rw [zFl (h _ (List.getElem_mem CJ)),Aa];cases Iw xs[i] ys[i]<;>rfl
  ·show Vh xs ys (fun a b=>NB a b) xs.length=_;unfold Vh;rw [if_neg (by simp)]
theorem cQ {s:Au} {t:Ad} {x:At} (h:Di t) (hx:EK t s.ab x):Ki s t=some x.aq:=by unfold Ki Nx;rw [Xe h,Aa,hx.at_,Aa,Aa]
theorem s5 {s:Au} (hS:DS s): ∃g,PR s=some g∧(g=true↔BR s):=by
 unfold PR;rw [K2,Aa];by_cases hb:BP s.ak.length 1 4=true
 ·have h:=B7.1 hb;rw [if_pos hb,K2,Aa];by_cases h2:BP s.bp.length 1 3=true
  ·rw [if_pos h2,zGQ hS.store,Aa];by_cases h3:BZ s.ao=true
   ·rw [if_neg (by simp [h3]),Qk (fun t=> !B6 t s.ab) (fun t ht=>by unfold mD;rw [zHJ (hS.way t ht),Aa]) (by omega),Aa];by_cases h4:(s.ak.any fun t=> !B6 t s.ab)=true
    ·rw [if_pos h4];refine⟨_,rfl,by simp,fun h5=> ?_⟩;obtain⟨t,ht,hn⟩:=List.any_eq_true.1 h4;rw [h5.2.2.1 t ht]at hn;simp at hn
    ·have hA: ∀t∈s.ak,B6 t s.ab=true:=fun t ht=>by
      cases hq:B6 t s.ab with
      |true=>rfl
      |false=>exact absurd (List.any_eq_true.2 ⟨t,ht,by simp [hq]⟩) h4
     have w:IntKind.i64.wrap ((s.ak.length:Int)-1)=(s.ak.length:Int)-1:=Bc (by omega) (by omega);have OA:=hS.at_;rw [if_neg h4,Qk (fun y=> !BP y 0 ((s.ak.length:Int)-1)) (fun y hy=>by unfold mS;rw [w,K2,Aa]) (by omega),Aa];by_cases h5:(s.bp.any fun y=> !BP y 0 ((s.ak.length:Int)-1))=true
     ·rw [if_pos h5];refine⟨_,rfl,by simp,fun h6=> ?_⟩;obtain⟨y,hy,hn⟩:=List.any_eq_true.1 h5;rw [B7.2 (h6.2.2.2.2.2.1 y hy)]at hn;simp at hn
     ·have hB: ∀y∈s.bp,0≤y∧y≤(s.ak.length:Int)-1:=fun y hy=>by
       cases hq:BP y 0 ((s.ak.length:Int)-1)with
       |true=>exact B7.1 hq
       |false=>exact absurd (List.any_eq_true.2 ⟨y,hy,by simp [hq]⟩) h5
      obtain⟨e0,m0⟩:=Kp (s:=s) (by omega);obtain⟨e1,m1⟩:=rU (s:=s) (by omega) (by omega);obtain⟨x,hx,sx,x0,x3,_⟩:=Kt (hA _ m0);obtain⟨y,hy,sy,y0,y3,_⟩:=Kt (hA _ m1);rw [if_neg h5,e0,Aa,e1,Aa,cQ (hS.way _ m1) hy,Aa,zH3 (hS.way _ m0) hx x0 x3 y0 y3,Aa];have hW:way (AM s) (BH (fun y:At=>y.ab==s.ab) (AM s).ah) x.aq y.aq=D8 s:=by unfold D8 Ci;rw [sx,sy]
      rw [hW];obtain⟨r,er,fr⟩:=zCf (xs:=s.ak) (ys:=D8 s) hS.way hS.ways;rw [er,Aa];exact⟨_,rfl,fun hr=>⟨by omega,by omega,hA,fr.1 hr,h2,hB,h3⟩,fun h6=>fr.2 h6.2.2.2.1⟩
   ·rw [if_pos (by simp [h3])];exact⟨_,rfl,by simp,fun h5=>absurd h5.2.2.2.2.2.2 h3⟩
  ·rw [if_neg h2];exact⟨_,rfl,by simp,fun h5=>absurd h5.2.2.2.2.1 h2⟩
 ·rw [if_neg hb];exact⟨_,rfl,by simp,fun h5=>absurd (B7.2 ⟨by have:=h5.1;omega,by have:=h5.2.1;omega⟩) hb⟩
def Du (t:Ad) (n:Af):At:=(t.ah[(Ci t n).toNat]?).getD ⟨[],0,0⟩
theorem yL {t:Ad} {n:Af} {x:At} (h:EK t n x):Du t n=x:=by unfold Du Ci;rw [(N4 h.at_).2.1];rfl
def CS (s:Au):List Int:=s.bp.map fun y=>BD ((getI s.ak y).getD Ng) s.ab
def He (s:Au):Bool:=holds (AM s) s.ab (Du (AM s) s.ab) (Hh (CS s)) s.ao
theorem cU {s:Au} (hS:DS s) (hg:BR s):Sv s=some (He s)∧RQ s=some (He s):=by
 obtain⟨h1,h4,hA,_,h3,hB,hR⟩:=hg;have h3:=B7.1 h3;obtain⟨e0,m0⟩:=Kp (s:=s) h1;obtain⟨x,hx,k1,k2,k3⟩:=dH (hA _ m0);have hT:=zHf hR;have hW:=hS.store;have AZ: ∀y∈s.bp,∃tb x,getI s.ak y=some tb∧tb∈s.ak∧EK tb s.ab x∧BD tb s.ab=x.aq:=fun y hy=>by obtain⟨tb,q1,q2,_⟩:=IX (hB y hy).1 (by have:=(hB y hy).2;omega:y<s.ak.length);obtain⟨x,q3,q4,_⟩:=Kt (hA tb q2);exact⟨tb,x,q1,q2,q3,q4⟩
 let st:List Int:=s.bp.map fun y=>BD ((getI s.ak y).getD Ng) s.ab;have hn:st.length=s.bp.length:=by simp [st]
 have hl:st.length≤2000000:=by have:=hS.at_;omega
 have n1:=xG (s:=s) (st:=st) hn hl fun i hi=>by
  have EF:i<s.bp.length:=by omega
  obtain⟨tb,x,q1,q2,q3,q4⟩:=AZ _ (List.getElem_mem EF);refine⟨s.bp[i],tb,_,x,AN EF,q1,Jx (hS.way _ q2),q3.at_, ?_⟩;simp only [st,List.getElem_map,q1,Option.getD_some,q4]
 have n2:=zGF (s:=s) (st:=st) hn hl fun i hi=>by
  have EF:i<s.bp.length:=by omega
  obtain⟨tb,x,q1,q2,q3,q4⟩:=AZ _ (List.getElem_mem EF);refine⟨tb, ?_, ?_⟩
  ·unfold GL;rw [AN EF,Aa,q1,Aa]
  ·rw [cQ (hS.way _ q2) q3];simp only [st,List.getElem_map,q1,Option.getD_some,q4]
 unfold Sv RQ;have S0:=hS.way _ m0;have QV:=hS.name;have Gq:PX (AM s) s.ab s.ao=some true:=by rw [zEs S0 hW];unfold kB;rw [hA _ m0,hR];rfl
 rw [e0,Aa,Aa,n1,n2,Aa,Aa,zFk S0 (by omega) QV hx hW.1 hT Gq,zEM S0 k1 QV k3 hx hW.1 hT];unfold He;rw [yL hx];exact⟨rfl,rfl⟩
theorem zCl {s:Au} (hS:DS s) (hg:BR s): ∃r,Sv s=some r∧RQ s=some r:=⟨_,cU hS hg⟩
def Xn (t:Ad) (n:Af) (st:List Ac):Prop:= ∀w∈st,C4 t n w.af=false
def MI (t:Ad) (n:Af) (x:At) (st:List Ac):Prop:= ∀w∈st,C4 t n w.af=true→ ∃q∈st,Co t q=true∧w.af=Bv t n x.bj (B5 q)
def MH (t:Ad) (n:Af) (x:At) (st:List Ac):Prop:= ∀q∈st,Co t q=true→ ∃w∈st,w.af=Bv t n x.bj (B5 q)
structure Fm (t:Ad) (a:Bf):Prop where
 tab:A0 t=true
 old:a.aj≠1→Bd t a.bq=true
 new:a.aj≠2→Bd t a.bw=true
 kind:a.aj=1∨a.aj=2∨a.aj=3
 same:a.aj=3→C8 a.bq 0=C8 a.bw 0
structure Fl (t:Ad) (a:Bf) (n:Af) (x:At):Prop extends Fm t a where
 idx:x∈t.ah
 name:x.ab=n
theorem Fl.ov {t:Ad} {a:Bf} {n:Af} {x:At} (A:Fl t a n x):Fm t a:=⟨A.tab,A.old,A.new,A.kind,A.same⟩
theorem zG8 {t:Ad} {a:Bf} (hg:A0 t=true) (h:HO t a=true):Fm t a:=by
 unfold HO at h;by_cases h1:a.aj=1
 ·rw [if_pos h1,Ae]at h;exact⟨hg,fun k=>absurd h1 k,fun _=>h.2, .inl h1,fun k=>by omega⟩
 rw [if_neg h1]at h;by_cases h2:a.aj=2
 ·rw [if_pos h2,Ae]at h;exact⟨hg,fun _=>h.1,fun k=>absurd h2 k, .inr (.inl h2),fun k=>by omega⟩
 rw [if_neg h2]at h;by_cases h3:a.aj=3
 ·rw [if_pos h3,Ae,Ae,beq_iff_eq]at h;exact⟨hg,fun _=>h.1,fun _=>h.2.1, .inr (.inr h3),fun _=>h.2.2⟩
 rw [if_neg h3]at h;cases h
theorem xF {t:Ad} {a:Bf} {n:Af} {x:At} (hg:A0 t=true) (hx:x∈t.ah) (hn:x.ab=n) (h:HO t a=true):Fl t a n x:=⟨zG8 hg h,hx,hn⟩
theorem dG (t:Ad) (m:Af) (c:Int) (r:AD):Bv t m c r≠ []:=by unfold Bv;simp
section
variable {t:Ad} {a:Bf} (A:Fm t a)
include A
theorem Fm.ee (h:a.aj≠1) {y:At}:E5 t a y=Bv t y.ab y.bj a.bq:=by have _:=A;unfold E5;rw [if_neg h]
theorem Fm.dv (h:a.aj≠2) {y:At}:Ea t a y=Bv t y.ab y.bj a.bw:=by have _:=A;unfold Ea;rw [if_neg h]
theorem Fm.eo {y:At} {w:Ac} (hw:w∈GP t a y):(w=⟨E5 t a y, [],true⟩∧a.aj≠1∧E5 t a y≠Ea t a y∧y.aq≥1)∨(w=⟨Ea t a y, [],false⟩∧a.aj≠2∧y.aq≥2):=by
 have _:=A;unfold GP at hw;rcases Ai.1 hw with hw|hw
 ·split at hw
  ·rename_i h;rw [List.mem_singleton]at hw;refine .inl ⟨hw,fun k=> ?_,h.2.1,h.2.2⟩;apply h.1;unfold E5;rw [if_pos k]
  ·simp at hw
 ·split at hw
  ·rename_i h;rw [List.mem_singleton]at hw;refine .inr ⟨hw,fun k=> ?_,h.2⟩;apply h.1;unfold Ea;rw [if_pos k]
  ·simp at hw
theorem Fm.dk {n:Af} {y:At} (hy:y∈t.ah) {w:Ac} (hw:w∈GP t a y): ∃r,Bd t r=true∧w.af=Bv t y.ab y.bj r∧C4 t n w.af=decide (y.ab=n):=by
 have hc:=B7.1 (Ey A.tab hy).2;have hl:=(Ey A.tab hy).1;rcases A.eo hw with⟨rfl,h,_⟩|⟨rfl,h,_⟩
 ·refine⟨a.bq,A.old h,A.ee h, ?_⟩;show C4 t n (E5 t a y)=_;rw [A.ee h];exact P8 A.tab hl (A.old h) (by omega) hc.2
 ·refine⟨a.bw,A.new h,A.dv h, ?_⟩;show C4 t n (Ea t a y)=_;rw [A.dv h];exact P8 A.tab hl (A.new h) (by omega) hc.2
theorem Fm.gz {w:Ac} (hw:w∈Is t a): ∃r,Bd t r=true∧w.af=(AQ t r).af:=by
 unfold Is at hw;split at hw
 ·rename_i h;rw [List.mem_singleton]at hw;subst hw;exact⟨a.bw,A.new (by omega),rfl⟩
 ·rename_i h;split at hw
  ·rw [List.mem_singleton]at hw;subst hw;exact⟨a.bq,A.old h,rfl⟩
  ·rw [List.mem_singleton]at hw;subst hw;exact⟨a.bq,A.old h,rfl⟩
theorem Fm.ic {w:Ac} (hw:w∈D6 t a):w∈Is t a∨ ∃y∈t.ah,w∈GP t a y:=by
 have _:=A;unfold D6 at hw;rcases Ai.1 hw with h|h
 ·exact .inl h
 ·exact .inr (List.mem_flatMap.1 h)
theorem Fm.jv (h:a.aj≠2):AQ t a.bw∈D6 t a:=by
 refine Ai.2 (.inl ?_);unfold Is;rcases A.kind with k|k|k
 ·rw [if_pos k];exact List.mem_singleton.2 rfl
 ·exact absurd k h
 ·rw [if_neg (by omega),if_neg (by omega),List.mem_singleton,IT,A.same k,←IT];rfl
theorem Fm.ea {w:Ac} (hw:w∈D6 t a) (hr:Co t w=true):w=AQ t a.bw∧a.aj≠2:=by
 obtain⟨Ed,Gf⟩:=Fw hr;rcases A.ic hw with h|⟨y,hy,h⟩
 ·unfold Is at h;rcases A.kind with k|k|k
  ·rw [if_pos k,List.mem_singleton]at h;exact⟨h,by omega⟩
  ·rw [if_neg (by omega),if_pos k,List.mem_singleton]at h;have:w.bh=true:=by rw [h]
   rw [Gf]at this;cases this
  ·rw [if_neg (by omega),if_neg (by omega),List.mem_singleton,IT,A.same k,←IT]at h;exact⟨h,by omega⟩
 ·obtain⟨r,OM,e,_⟩:=A.dk (n:= []) hy h;rw [Gf]at e;exact absurd e (Wi A.tab (Ey A.tab hy).1 Ed OM)
theorem Fm.gn {w q:Ac} (hw:w∈D6 t a) (hq:Co t q=true) (e:w.af=q.af):w∈Is t a:=by
 obtain⟨Ed,Gf⟩:=Fw hq;rcases A.ic hw with h|⟨y,hy,h⟩
 ·exact h
 ·obtain⟨r,OM,e2,_⟩:=A.dk (n:= []) hy h;rw [e,Gf]at e2;exact absurd e2 (Wi A.tab (Ey A.tab hy).1 Ed OM)
theorem Fm.gf (h:a.aj≠1) {w:Ac} (hw:w∈Is t a):w.af=(AQ t a.bq).af:=by have _:=A;unfold Is at hw;rw [if_neg h]at hw;split at hw<;>(rw [List.mem_singleton]at hw;rw [hw])
theorem Fm.fc (h:a.aj≠1): ∃w∈D6 t a,w.af=(AQ t a.bq).af:=by have _:=A;unfold D6 Is;rw [if_neg h];split<;>exact⟨_,Ai.2 (.inl (List.mem_singleton.2 rfl)),rfl⟩
theorem Fm.gy (h:a.aj=1) {w:Ac} (hw:w∈Is t a):w.af=(AQ t a.bw).af:=by have _:=A;unfold Is at hw;rw [if_pos h,List.mem_singleton]at hw;rw [hw]
end
section
variable {t:Ad} {a:Bf} {n:Af} {x:At} (A:Fl t a n x)
include A
theorem Fl.j9:CG n 1=true:=by rw [←A.name];exact(Ey A.tab A.idx).1
theorem Fl.lr:1≤x.bj∧x.bj≤(t.ar.length:Int)-1:=B7.1 (Ey A.tab A.idx).2
theorem Fl.ie {w:Ac} (hw:w∈GP t a x):w∈D6 t a:=by unfold D6;exact Ai.2 (.inr (List.mem_flatMap.2 ⟨x,A.idx,hw⟩))
theorem Fl.dh {w:Ac} (hw:w∈D6 t a) (he:C4 t n w.af=true):w∈GP t a x:=by
 rcases A.ic hw with h|⟨y,hy,h⟩
 ·obtain⟨r,hr,e⟩:=A.gz h;rw [e,zwY A.tab hr]at he;cases he
 ·obtain⟨r,_,_,e⟩:=A.dk (n:=n) hy h;rw [e,decide_eq_true_eq]at he;have:y=x:=(sP A.tab).gu hy A.idx (he.trans A.name.symm);rw [←this];exact h
variable {st st':List Ac} (hB:Qq t a st st')
include hB
theorem Fl.j6 (hs:x.aq≤1) (h:Xn t n st):Xn t n st':=by
 intro y hy;cases he:C4 t n y.af with
 |false=>rfl
 |true=>
  obtain⟨Dp,h1|h1⟩:=(hB y).1 hy
  ·rcases A.eo (A.dh h1 he)with⟨e,_⟩|⟨_,_,k⟩
   ·rw [e]at Dp;cases Dp
   ·omega
  ·rw [h y h1.1]at he;cases he
theorem Fl.fj (hr:Da st) (hA:Yj t a st) (hs:1≤x.aq) (h:MI t n x st):MI t n x st':=by
 have A1:a.aj≠2→ ∃q∈st',Co t q=true∧B5 q=a.bw:=fun k=>
  ⟨AQ t a.bw,(hB _).2 ⟨rfl, .inl (A.jv k)⟩,jR A.tab (A.new k),Tf A.tab (A.new k)⟩
 intro y hy he;obtain⟨Dp,h1|⟨h1,h2⟩⟩:=(hB y).1 hy
 ·rcases A.eo (A.dh h1 he)with⟨e,_⟩|⟨e,k,_⟩
  ·rw [e]at Dp;cases Dp
  ·obtain⟨q,q1,q2,q3⟩:=A1 k;refine⟨q,q1,q2, ?_⟩;rw [q3,e];show Ea t a x=_;rw [A.dv k,A.name]
 ·obtain⟨q,q1,q2,q3⟩:=h y h1 he;obtain⟨Ed,Gf⟩:=Fw q2;by_cases ho: ∀w∈D6 t a,w.af≠q.af
  ·exact⟨q,(hB q).2 ⟨by rw [Gf];rfl, .inr ⟨q1,ho⟩⟩,q2,q3⟩
  ·have⟨w,hw,e⟩: ∃w∈D6 t a,w.af=q.af:=by
    apply Classical.byContradiction;intro hc;exact ho fun w hw e=>hc ⟨w,hw,e⟩
   have Ph:=A.gn hw q2 e;by_cases k1:a.aj=1
   ·exact absurd (e.symm.trans (A.gy k1 Ph)) (hA.1 k1 q q1)
   ·have hq:q=AQ t a.bq:=Ei.gu (key:=fun w:Ac=>w.af) hr q1 (hA.2 k1) (e.symm.trans (A.gf k1 Ph));have HH:y.af=E5 t a x:=by
     rw [q3,hq,Tf A.tab (A.old k1),A.ee k1,A.name]
    have J0:E5 t a x=Ea t a x:=by
     apply Classical.byContradiction;intro hc;have hm:(⟨E5 t a x, [],true⟩:Ac)∈GP t a x:=by unfold GP;rw [if_pos ⟨by rw [A.ee k1];exact dG _ _ _ _,hc,hs⟩];simp
     exact h2 _ (A.ie hm) HH.symm
    have k2:a.aj≠2:=by
     intro k;have:Ea t a x= []:=by unfold Ea;rw [if_pos k]
     rw [this,A.ee k1]at J0;exact dG _ _ _ _ J0
    obtain⟨p,p1,p2,p3⟩:=A1 k2;refine⟨p,p1,p2, ?_⟩;rw [p3,HH,J0,A.dv k2,A.name]
theorem Fl.jq (hn: ∀w∈st,w.bh=false) (hs:2≤x.aq) (h:MH t n x st):MH t n x st':=by
 intro q hq hr;obtain⟨Ed,Gf⟩:=Fw hr;obtain⟨Dp,h1|⟨h1,h2⟩⟩:=(hB q).1 hq
 ·obtain⟨e,k⟩:=A.ea h1 hr;have hm:(⟨Ea t a x, [],false⟩:Ac)∈GP t a x:=by
   unfold GP;refine Ai.2 (.inr ?_);rw [if_pos ⟨by rw [A.dv k];exact dG _ _ _ _,hs⟩];simp
  refine⟨_,(hB _).2 ⟨rfl, .inl (A.ie hm)⟩, ?_⟩;show Ea t a x=_;rw [e,Tf A.tab (A.new k),A.dv k,A.name]
 ·obtain⟨w,w1,w2⟩:=h q h1 hr;by_cases ho: ∀z∈D6 t a,z.af≠w.af
  ·exact⟨w,(hB w).2 ⟨hn w w1, .inr ⟨w1,ho⟩⟩,w2⟩
  ·have⟨z,hz,e⟩: ∃z∈D6 t a,z.af=w.af:=by
    apply Classical.byContradiction;intro hc;exact ho fun z hz e=>hc ⟨z,hz,e⟩
   have he:C4 t n z.af=true:=by rw [e,w2,P8 A.tab A.j9 Ed (by have:=A.lr;omega) A.lr.2];simp
   rcases A.eo (A.dh hz he)with⟨e1,k1,_⟩|⟨e1,k2,_⟩
   ·exfalso;have hk:Bv t n x.bj a.bq=Bv t n x.bj (B5 q):=by
     have:z.af=E5 t a x:=by rw [e1]
     rw [e,w2,A.ee k1,A.name]at this;exact this.symm
    have hp:=ztA A.tab A.j9 (A.old k1) Ed hk;obtain⟨u,u1,u2⟩:=A.fc k1;apply h2 u u1;rw [u2,Gf,IT,IT,hp]
   ·exact⟨z,(hB z).2 ⟨by rw [e1], .inl hz⟩,e.trans w2⟩
end
theorem bP {t:Ad} {n:Af} {x:At} {st:List Ac}:holds t n x 0 st=true↔Xn t n st:=by
 unfold holds Be Xn;rw [if_pos (by rfl)];simp only [List.length_map,beq_iff_eq];constructor
 ·intro h w hw;have h0:(st.filter fun w=>C4 t n w.af)= []:=List.eq_nil_of_length_eq_zero (by omega);have:=List.filter_eq_nil_iff.1 h0 w hw;simpa using this
 ·intro h;rw [List.filter_eq_nil_iff.2 fun w hw=>by rw [h w hw];simp];rfl
theorem WE {a b:List Af}:((less a b).length:Int)=0↔ ∀k∈a,k∈b:=by
 unfold less;constructor
 ·intro h k hk;have h0:(a.filter fun k=> !b.contains k)= []:=List.eq_nil_of_length_eq_zero (by omega);have:=List.filter_eq_nil_iff.1 h0 k hk;simpa using this
 ·intro h;rw [List.filter_eq_nil_iff.2 fun k hk=>by simpa using h k hk];rfl
theorem P5 {t:Ad} {n:Af} {x:At} {st:List Ac} {k:Af}:k∈wanted t n x st↔ ∃q∈st,Co t q=true∧k=Bv t n x.bj (B5 q):=by
 unfold wanted rows;simp only [List.mem_map,List.mem_filter];constructor
 ·rintro⟨r,⟨q,⟨h1,h2⟩,rfl⟩,rfl⟩;exact⟨q,h1,h2,rfl⟩
 ·rintro⟨q,h1,h2,rfl⟩;exact⟨_,⟨q,⟨h1,h2⟩,rfl⟩,rfl⟩
theorem GN {t:Ad} {n:Af} {st:List Ac} {k:Af}:k∈Be t n st↔ ∃w∈st,C4 t n w.af=true∧k=w.af:=by
 unfold Be;simp only [List.mem_map,List.mem_filter];constructor
 ·rintro⟨w,⟨h1,h2⟩,rfl⟩;exact⟨w,h1,h2,rfl⟩
 ·rintro⟨w,h1,h2,rfl⟩;exact⟨w,⟨h1,h2⟩,rfl⟩
theorem tP {t:Ad} {n:Af} {x:At} {st:List Ac}:(∀k∈Be t n st,k∈wanted t n x st)↔MI t n x st:=by
 constructor
 ·intro h w hw he;exact P5.1 (h w.af (GN.2 ⟨w,hw,he,rfl⟩))
 ·intro h k hk;obtain⟨w,hw,he,rfl⟩:=GN.1 hk;exact P5.2 (h w hw he)
theorem S7 {t:Ad} {n:Af} {x:At} {st:List Ac}:holds t n x 1 st=true↔MI t n x st:=by rw [←tP,←WE];unfold holds;rw [if_neg (by decide)];simp
theorem zG5 {t:Ad} {a:Bf} {n:Af} {x:At} {st:List Ac} (A:Fl t a n x):(∀k∈wanted t n x st,k∈Be t n st)↔MH t n x st:=by
 constructor
 ·intro h q hq hr;obtain⟨w,hw,_,e⟩:=GN.1 (h _ (P5.2 ⟨q,hq,hr,rfl⟩));exact⟨w,hw,e.symm⟩
 ·intro h k hk;obtain⟨q,hq,hr,rfl⟩:=P5.1 hk;obtain⟨w,hw,e⟩:=h q hq hr;refine GN.2 ⟨w,hw, ?_,e.symm⟩;rw [e,P8 A.tab A.j9 (Fw hr).1 (by have:=A.lr;omega) A.lr.2];simp
theorem zyC {t:Ad} {a:Bf} {n:Af} {x:At} {st:List Ac} (A:Fl t a n x):holds t n x 2 st=true↔MI t n x st∧MH t n x st:=by rw [←tP,←zG5 A,←WE,←WE];unfold holds;rw [if_neg (by decide)];simp
theorem zJK {t:Ad} {a:Bf} {n:Af} {x:At} {st st':List Ac} {low:Int} (A:Fl t a n x) (hg:BZ st=true) (hA:Yj t a st) (hB:Qq t a st st')
  (hl:low=0∧x.aq≤1∨low=1∧1≤x.aq∨low=2∧2≤x.aq) (h:holds t n x low st=true):holds t n x low st'=true:=by
 obtain⟨hr,hn⟩:=Eg hg;rcases hl with⟨rfl,hs⟩|⟨rfl,hs⟩|⟨rfl,hs⟩
 ·exact bP.2 (A.j6 hB hs (bP.1 h))
 ·exact S7.2 (A.fj hB hr.cd hA hs (S7.1 h))
 ·have h2:=(zyC A).1 h;exact(zyC A).2 ⟨A.fj hB hr.cd hA (by omega) h2.1,A.jq hB hn hs h2.2⟩
abbrev Xd (l:List Ac):Prop:=l.Pairwise fun a b=>a.af≠b.af
theorem sK: ∀(l:List Ac) {s:List Ac},Xd l→Da s→ ∀y,y∈l.foldl (fun o w=>Bj wk w o) s↔y∈l∨y∈s∧ ∀w∈l,w.af≠y.af
 | [],s,_,_,y=>by simp
 |x::l,s,hl,hs,y=>by
  unfold Xd at hl;rw [List.pairwise_cons]at hl;rw [List.foldl_cons,sK l hl.2 (Wr hs),Tb hs];constructor
  ·rintro(h|⟨h1|h1,h2⟩)
   ·exact .inl (by simp [h])
   ·exact .inl (by simp [h1])
   ·exact .inr ⟨h1.1,fun w hw=>by
     rcases Ag.1 hw with rfl|hw
     ·exact fun e=>h1.2 e.symm
     ·exact h2 w hw⟩
  ·rintro(h|⟨h1,h2⟩)
   ·rcases Ag.1 h with rfl|h
    ·exact .inr ⟨.inl rfl,fun w hw e=>hl.1 w hw e.symm⟩
    ·exact .inl h
   ·exact .inr ⟨.inr ⟨h1,fun e=>h2 x (by simp) e.symm⟩,fun w hw=>h2 w (by simp [hw])⟩
theorem zBu {l:List Ac} (h:Da l):Xd l:=List.Pairwise.imp (fun h=>FA h) h
theorem zxW: ∀(l:List Ac) {s:List Ac},Da s→Da (l.foldl (fun o w=>Bj wk w o) s)
 | [],_,h=>h
 |_::l,_,h=>zxW l (Wr h)
theorem zEO {t:Ad} {m n:Af} {c d:Int} {r q:AD} (hg:A0 t=true) (hm:CG m 1=true) (hn:CG n 1=true) (h:Bd t r=true) (k:Bd t q=true) (A2:m≠n):Bv t m c r≠Bv t n d q:=by intro e;have h1:=SX (c:=c) hg hm h;rw [e,SX hg hn k]at h1;simp only [List.cons.injEq]at h1;have h2:=h1.1;unfold head at h2;exact A2 (List.append_cancel_left h2).symm
theorem Fm.apart {t:Ad} {a:Bf} (A:Fm t a):Xd (D6 t a):=by
 unfold Xd D6;rw [List.pairwise_append];refine⟨?_, ?_,fun w hw z hz e=> ?_⟩
 ·unfold Is;split
  ·exact List.pairwise_singleton _ _
  ·split<;>exact List.pairwise_singleton _ _
 ·rw [List.pairwise_flatMap];refine⟨fun y hy=> ?_, ?_⟩
  ·unfold GP;rw [List.pairwise_append];refine⟨?_, ?_,fun w hw z hz e=> ?_⟩
   ·split
    ·exact List.pairwise_singleton _ _
    ·exact List.Pairwise.nil
   ·split
    ·exact List.pairwise_singleton _ _
    ·exact List.Pairwise.nil
   ·split at hw
    ·rename_i h;rw [List.mem_singleton]at hw;split at hz
     ·rw [List.mem_singleton]at hz;rw [hw,hz]at e;exact h.2.1 e
     ·simp at hz
    ·simp at hw
  ·refine List.Pairwise.imp_of_mem (fun{y z} hy hz hyz w hw u hu e=> ?_) (sP A.tab);obtain⟨r,h1,h2,_⟩:=A.dk (n:= []) hy hw;obtain⟨q,k1,k2,_⟩:=A.dk (n:= []) hz hu;rw [h2,k2]at e;exact zEO A.tab (Ey A.tab hy).1 (Ey A.tab hz).1 h1 k1 (FA hyz) e
 ·obtain⟨r,h1,h2⟩:=A.gz hw;obtain⟨y,hy,hz⟩:=List.mem_flatMap.1 hz;obtain⟨q,k1,k2,_⟩:=A.dk (n:= []) hy hz;rw [h2,k2]at e;exact Wi A.tab (Ey A.tab hy).1 h1 k1 e
theorem Fm.behind {t:Ad} {a:Bf} (A:Fm t a) {st:List Ac} (hr:Da st):Qq t a st (Dh st ((D6 t a).foldl (fun o w=>Bj wk w o) [])):=by
 have hw:Da ((D6 t a).foldl (fun o w=>Bj wk w o) []):=zxW _ List.Pairwise.nil;have hm: ∀y,y∈(D6 t a).foldl (fun o w=>Bj wk w o) []↔y∈D6 t a:=fun y=>by rw [sK _ A.apart List.Pairwise.nil];simp
 intro y;unfold Dh;rw [List.mem_filter,sK _ (zBu hw) hr,hm];constructor
 ·rintro⟨h|⟨h1,h2⟩,h3⟩
  ·exact⟨by simpa using h3, .inl h⟩
  ·exact⟨by simpa using h3, .inr ⟨h1,fun w hw=>h2 w ((hm w).2 hw)⟩⟩
 ·rintro⟨h3,h|⟨h1,h2⟩⟩
  ·exact⟨.inl h,by simpa using h3⟩
  ·exact⟨.inr ⟨h1,fun w hw=>h2 w ((hm w).1 hw)⟩,by simpa using h3⟩
def Ic (o:Ay):Ac:=if o.aj=3 then⟨o.af, [],true⟩else⟨o.af,o.a7,false⟩
theorem zEZ (t:Ad) (a:Bf) (x:At):(Ha t a x).map Ic=GP t a x:=by
 unfold Ha GP Le JA;rw [List.map_append];congr 1
 ·split<;>rfl
 ·split<;>rfl
theorem ztq {α β:Type} (f:α→List β): ∀(xs:List α) (a:List β),xs.foldl (fun a x=>a++f x) a=a++xs.flatMap f
 | [],a=>by simp
 |x::xs,a=>by rw [List.foldl_cons,ztq f xs,List.flatMap_cons,List.append_assoc]
theorem zzh (t:Ad) (a:Bf): ∃o rest,D7 t a=o::rest∧rest.map Ic=D6 t a∧(∀p∈rest,p.aj=2∨p.aj=3)∧
  (a.aj=1→o=⟨6,(AQ t a.bw).af, [],0⟩)∧(a.aj≠1→o=⟨7,(AQ t a.bq).af,(AQ t a.bq).a7,0⟩):=by
 have hi: ∀p∈t.ah.flatMap (Ha t a),p.aj=2∨p.aj=3:=by
  intro p hp;obtain⟨y,_,hp⟩:=List.mem_flatMap.1 hp;unfold Ha Le JA at hp;rcases Ai.1 hp with hp|hp
  ·split at hp
   ·rw [List.mem_singleton]at hp;subst hp;exact .inr rfl
   ·simp at hp
  ·split at hp
   ·rw [List.mem_singleton]at hp;subst hp;exact .inl rfl
   ·simp at hp
 have hw:(t.ah.flatMap (Ha t a)).map Ic=t.ah.flatMap (GP t a):=by rw [List.map_flatMap];congr 1;funext y;exact zEZ t a y
 unfold D7 D6 Is;rw [ztq];unfold K6;by_cases h1:a.aj=1
 ·rw [if_pos h1,if_pos h1];refine⟨_,_,rfl, ?_,fun p hp=> ?_,fun _=>rfl,fun k=>absurd h1 k⟩
  ·show Ic _::(t.ah.flatMap (Ha t a)).map Ic=_;rw [hw];rfl
  ·rcases Ag.1 hp with rfl|hp
   ·exact .inl rfl
   ·exact hi p hp
 ·rw [if_neg h1,if_neg h1];by_cases h2:a.aj=2
  ·rw [if_pos h2,if_pos h2];refine⟨_,_,rfl, ?_,fun p hp=> ?_,fun k=>absurd k h1,fun _=>rfl⟩
   ·show Ic _::(t.ah.flatMap (Ha t a)).map Ic=_;rw [hw];rfl
   ·rcases Ag.1 hp with rfl|hp
    ·exact .inr rfl
    ·exact hi p hp
  ·rw [if_neg h2,if_neg h2];refine⟨_,_,rfl, ?_,fun p hp=> ?_,fun k=>absurd k h1,fun _=>rfl⟩
   ·show Ic _::(t.ah.flatMap (Ha t a)).map Ic=_;rw [hw];rfl
   ·rcases Ag.1 hp with rfl|hp
    ·exact .inl rfl
    ·exact hi p hp
end Go.Proofs.YtbmbkgalkfmjdaaGreatDoor
end

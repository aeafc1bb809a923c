/- Parts of a proof, joined: NS, NT, NPN, NPT, NPU, NV, NU, NH, NM, NN, NPV, ND, NVG, NDA, NDB, NPW, NKS, NKT, NKU, PL. -/
import Derived.Test.YtollgpkegmbpmaaGreatDoorA8
import Derived.Lib.LaidTab
import Derived.LaidSub
set_option linter.unusedVariables false
set_option linter.unusedSimpArgs false
section
namespace Go.Proofs.YtollgpkegmbpmaaGreatDoor
open Go.RowKit
set_option maxRecDepth 100000
set_option maxHeartbeats 1000000
abbrev wk (w:Ag):Ai:=w.ab
theorem Tv {α β:Type} {xs:List α} {body:Int→Option (Int ⊕ Option β)} (p:α→Bool) (hit:α→Option β) (fin:Option β)
  (hs: ∀(i:Nat) (hi:i<xs.length),body i=some (if p xs[i]=true then .inr (hit xs[i])else .inl ((i+1:Nat):Int))) (he:body xs.length=some (.inr fin)):
  AL body 0=match xs.find? p with|some x=>hit x|none=>fin:=by
 have key: ∀n q,q+n=xs.length→AL body (q:Nat)=match(xs.drop q).find? p with|some x=>hit x|none=>fin:=by
  intro n
  induction n with
  |zero=>
   intro q hq;have:q=xs.length:=by omega
   subst this;rw [List.drop_length];exact Ez he
  |succ n ih=>
   intro q hq;have Au:q<xs.length:=by omega
   rw [List.drop_eq_getElem_cons Au,List.find?_cons];have h1:=hs q Au;cases hp:p xs[q]with
   |true=>rw [hp,if_pos rfl]at h1;exact Ez h1
   |false=>rw [hp,if_neg (by simp)]at h1;rw [Fx h1];exact ih (q+1) (by omega)
 have:=key xs.length 0 (by omega);rw [List.drop_zero]at this;exact this
def Mm (got:List As) (k:Ai):Ai × Bool × Bool:=match got.find? (fun g=>g.ab==k)with|some g=>(g.ak,g.a7,true)|none=>([],false,false)
def EA (ws:List Ag) (got:List As) (k:Ai):Ai × Bool × Bool:=match ws.find? (fun w=>w.ab==k)with|some w=>(w.ak, !w.bd,true)|none=>Mm got k
def CX (rows:List Ag) (k:Ai):As:=match rows.find? (fun w=>w.ab==k)with|some w=>⟨k,w.ak,true⟩|none=>⟨k, [],false⟩
theorem vZ {ws:List Ag} {got:List As} {k:Ai} (hw:ws.length≤2000000) (hg:got.length≤2000000):Sr ws got k=some (EA ws got k):=by
 have h2:Sj got k=some (Mm got k):=by
  unfold Sj Mm;rw [Tv (xs:=got) (body:=fun s:Int=>M1 got k s) (fun g=>g.ab==k) (fun g=>some (g.ak,g.a7,true)) (some ([],false,false)) (fun i hi=>by
   show M1 got k i=_;unfold M1;rw [if_pos (by simpa using hi),BA hi,Ab,CZ hi (by omega)];split<;>rfl) (by
   show M1 got k got.length=_;unfold M1;rw [if_neg (by simp)])]
  cases got.find? (fun g=>g.ab==k)<;>rfl
 unfold Sr EA;rw [Tv (xs:=ws) (body:=fun s:Int=>MY ws got k s) (fun w=>w.ab==k) (fun w=>some (w.ak, !w.bd,true)) (Sj got k) (fun i hi=>by
  show MY ws got k i=_;unfold MY;rw [if_pos (by simpa using hi),BA hi,Ab,CZ hi (by omega)];split<;>rfl) (by
  show MY ws got k ws.length=_;unfold MY;rw [if_neg (by simp)]),h2]
 cases ws.find? (fun w=>w.ab==k)<;>rfl
theorem zO {rows:List Ag} {k:Ai} (hw:rows.length≤2000000):SE rows k=some (CX rows k):=by
 unfold SE CX;rw [Tv (xs:=rows) (body:=fun s:Int=>MW rows k s) (fun w=>w.ab==k) (fun w=>some ⟨k,w.ak,true⟩) (aP k) (fun i hi=>by
  show MW rows k i=_;unfold MW;rw [if_pos (by simpa using hi),BA hi,Ab,CZ hi (by omega)];split<;>rfl) (by
  show MW rows k rows.length=_;unfold MW;rw [if_neg (by simp)])]
 cases rows.find? (fun w=>w.ab==k)<;>rfl
theorem Tm {α:Type} (lt:α→Bool) (x:α) (l:List α):Bv lt (x::l)=if lt x=true then Bv lt l+1 else 0:=by unfold Bv;rw [List.takeWhile_cons];split<;>rfl
theorem Xz {x:Ag} {l:List Ag} (h:DX (x::l)):(∀y∈l,bl x.ab y.ab=true)∧DX l:=by unfold DX Da at h;rw [List.pairwise_cons]at h;exact h
theorem vU {l:List Ag} {k:Ai} (h: ∀y∈l,bl k y.ab=true):l.find? (fun w=>w.ab==k)=none:=by rw [List.find?_eq_none];intro y hy;have:=FB (h y hy);simpa using fun e=>this e.symm
theorem cS {k:Ai}: ∀{l:List Ag},DX l→l.find? (fun w=>w.ab==k)=match l[FA l k]? with|some w=>if w.ab=k then some w else none|none=>none
 | [],_=>by simp
 |x::l,h=>by
  obtain⟨h1,h2⟩:=Xz h;have ih:=cS (k:=k) h2;rw [FA,Tm,List.find?_cons];by_cases hb:bl x.ab k=true
  ·have A4:(x.ab==k)=false:=by simpa using FB hb
   rw [if_pos hb,A4,List.getElem?_cons_succ];exact ih
  ·rw [if_neg hb,List.getElem?_cons_zero];by_cases he:x.ab=k
   ·rw [show(x.ab==k)=true by simpa using he];simp [he]
   ·rw [show(x.ab==k)=false by simpa using he];simp only [he,if_false];have hk:bl k x.ab=true:=L4 (by simpa using hb) he;exact vU fun y hy=>Gu hk (h1 y hy)
theorem iN {l:List Ag} {k:Ai} (hl:l.length≤2000000) (hr:DX l): ∃i:Int,(Kt l k=some (i,true)∧ ∃w,getI l i=some w∧l.find? (fun w=>w.ab==k)=some w)∨(Kt l k=some (i,false)∧l.find? (fun w=>w.ab==k)=none):=by
 refine⟨(FA l k:Nat), ?_⟩;rw [jV hl hr,cS hr];by_cases hp:FA l k<l.length
 ·rw [List.getElem?_eq_getElem hp];by_cases hk:(l[FA l k]).ab=k
  ·left;simp only [hk,decide_true,if_true];exact⟨trivial,_,BA hp,rfl⟩
  ·right;simp only [hk,decide_false,if_false];exact⟨trivial,trivial⟩
 ·rw [List.getElem?_eq_none (by omega)];right;exact⟨rfl,rfl⟩
theorem u3 {ws:List Ag} {got:List As} {k:Ai} (hw:ws.length≤2000000) (hg:got.length≤2000000) (hr:DX ws):Sm k ws got=some (EA ws got k):=by
 unfold Sm EA;obtain⟨i,⟨e,w,e2,e3⟩|⟨e,e3⟩⟩:=iN (k:=k) hw hr
 ·rw [e,e3,Ab,if_pos rfl,e2];rfl
 ·rw [e,e3,Ab,if_neg (by simp)];unfold Mm;rw [Tv (xs:=got) (body:=fun s:Int=>M6 k got s) (fun g=>g.ab==k) (fun g=>some (g.ak,g.a7,true)) (some ([],false,false)) (fun i hi=>by
   show M6 k got i=_;unfold M6;rw [if_pos (by simpa using hi),BA hi,Ab,CZ hi (by omega)];split<;>rfl) (by
   show M6 k got got.length=_;unfold M6;rw [if_neg (by simp)])]
  cases got.find? (fun g=>g.ab==k)<;>rfl
theorem yQ {rows:List Ag} {k:Ai} (hw:rows.length≤2000000) (hr:DX rows):S1 rows k=some (CX rows k):=by
 unfold S1 CX;obtain⟨i,⟨e,w,e2,e3⟩|⟨e,e3⟩⟩:=iN (k:=k) hw hr
 ·rw [e,e3,Ab,if_neg (by simp),e2];rfl
 ·rw [e,e3,Ab,if_pos (by simp)]
def Dn (k:Ai) (w:Ag):Bool:=bl w.ab k||w.ab==k
def KS (l:List Ag) (w:Ag) (q:Nat):List Ag:=
 match(if q=0 then none else l[q-1]?)with
 |some y=>if y.ab=w.ab then l.set (q-1) w else l.take q++ [w]++l.drop q
 |none=>l.take q++ [w]++l.drop q
theorem uJ {w:Ai} {l:List Ag} (h: ∀y∈l,bl w y.ab=true):Bv (Dn w) l=0:=by
 cases l with
 |nil=>rfl
 |cons y l=>rw [Tm,if_neg];have h1:=h y (by simp);have h2:=Kz h1;have h3:=FB h1;unfold Dn;rw [h2];simpa using fun e=>h3 e.symm
theorem fT {w:Ag}: ∀{l:List Ag},DX l→KS l w (Bv (Dn w.ab) l)=BB wk w l
 | [],_=>by simp [KS,BB,Bv]
 |x::l,h=>by
  obtain⟨h1,h2⟩:=Xz h;have ih:=fT (w:=w) h2;rw [Tm,BB];by_cases ha:bl (wk w) (wk x)=true
  ·have hl:Dn w.ab x=false:=by
    have h3:=Kz ha;have h4:=FB ha;unfold Dn;rw [h3];simpa using fun e=>h4 e.symm
   rw [if_pos ha,hl,if_neg (by simp)];simp [KS]
  rw [if_neg ha];by_cases he:wk w=wk x
  ·have hl:Dn w.ab x=true:=by unfold Dn;rw [show(x.ab==w.ab)=true by simpa using he.symm];simp
   have hz:Bv (Dn w.ab) l=0:=uJ fun y hy=>by rw [show w.ab=x.ab from he];exact h1 y hy
   rw [if_pos he,hl,if_pos rfl,hz];simp [KS,show x.ab=w.ab from he.symm]
  ·have hb:bl x.ab w.ab=true:=L4 (by simpa using ha) he;have hl:Dn w.ab x=true:=by unfold Dn;rw [hb];rfl
   rw [if_neg he,hl,if_pos rfl,←ih];have hle:=NF (Dn w.ab) l;generalize Bv (Dn w.ab) l=q at hle;unfold KS;rw [if_neg (by omega),Nat.add_sub_cancel];cases q with
   |zero=>simp only [List.getElem?_cons_zero,if_true];rw [if_neg (fun e=>he e.symm)];simp
   |succ q=>
    rw [if_neg (by omega),Nat.add_sub_cancel,List.getElem?_cons_succ,List.getElem?_eq_getElem (by omega)];simp only;split
    ·simp
    ·simp
theorem iO {w:Ai}: ∀{l:List Ag},DX l→ ∀(j:Nat) (hj:j<l.length),Bv (Dn w) l≤j→Dn w l[j]=false
 | [],_,j,hj,_=>by simp at hj
 |x::l,h,j,hj,hq=>by
  obtain⟨h1,h2⟩:=Xz h;rw [Tm]at hq;by_cases hx:Dn w x=true
  ·rw [if_pos hx]at hq;cases j with
   |zero=>omega
   |succ j=>exact iO h2 j (by simpa using hj) (by omega)
  ·have Co:Dn w x=false:=by simpa using hx
   cases j with
   |zero=>exact Co
   |succ j=>have hm:l[j]'(by simpa using hj)∈l:=List.getElem_mem _;have h3:=h1 _ hm;show Dn w (l[j]'(by simpa using hj))=false;unfold Dn at Co ⊢;simp only [Bool.or_eq_false_iff,beq_eq_false_iff_ne]at Co ⊢;have h4:bl w x.ab=true:=L4 Co.1 Co.2;have h5:=Gu h4 h3;exact⟨Kz h5,fun e=>FB h5 e.symm⟩
theorem Yw {i:Nat} (h0:0<i) (h:i≤2000000):IntKind.i64.wrap ((i:Int)-1)=((i-1:Nat):Int):=by rw [B3 (by omega) (by omega)];omega
theorem TL {l:List Ag} {w:Ag} (hl:l.length≤2000000) (hr:DX l):LS l w=some (BB wk w l):=by
 have hk: ∀q:Nat,q≤l.length→Se l w (q:Int)=some (KS l w q):=by
  intro q hq;have r1:0≤(q:Int)∧(q:Int)≤(l.length:Int)∧(l.length:Int)≤(l.length:Int):=by omega
  have MM:(Br l (q:Int) (l.length:Int))=l.drop q:=by rw [show(l.length:Int)=((l.length:Nat):Int)from rfl,zyk,List.take_length]
  have ZD:(Br l 0 (q:Int))=l.take q:=zyf l q;have r2:((([]:List Ag).length:Int)+((l.drop q).length:Int))*40≤140737488355328∧(([]:List Ag).length:Int)+((l.drop q).length:Int)≤140737488355328:=by rw [List.length_nil,List.length_drop];omega
  have r3:0≤(0:Int)∧(0:Int)≤(q:Int)∧(q:Int)≤(l.length:Int):=by omega
  have r4:((([]:List Ag).length:Int)+((l.take q).length:Int))*40≤140737488355328∧(([]:List Ag).length:Int)+((l.take q).length:Int)≤140737488355328:=by rw [List.length_nil,List.length_take];omega
  have r5:(((l.take q).length:Int)+(([w]:List Ag).length:Int))*40≤140737488355328∧((l.take q).length:Int)+(([w]:List Ag).length:Int)≤140737488355328:=by rw [Bk,List.length_take];omega
  have r6:(((l.take q++ [w]).length:Int)+((l.drop q).length:Int))*40≤140737488355328∧((l.take q++ [w]).length:Int)+((l.drop q).length:Int)≤140737488355328:=by rw [AB,Bk,List.length_take,List.length_drop];omega
  have r7:((([]:List Ag).length:Int)+((l).length:Int))*40≤140737488355328∧(([]:List Ag).length:Int)+((l).length:Int)≤140737488355328:=by rw [List.length_nil];omega
  unfold Se KS;by_cases h0:q=0
  ·subst h0;rw [if_neg (by simp),if_pos rfl];rw [Cp r1,MM,Cp r2,Cp r3,ZD,Cp r4,Cp r5,Cp r6]
  ·have Gn:q-1<l.length:=by omega
   rw [if_pos (by simp;omega),if_neg h0,Yw (by omega) (by omega),BA Gn,Ab,List.getElem?_eq_getElem Gn];simp only;by_cases he:(l[q-1]).ab=w.ab
   ·rw [if_pos (by simpa using he),if_pos he,Cp r7,Ab];rfl
   ·rw [if_neg (by simpa using he),if_neg he];rw [Cp r1,MM,Cp r2,Cp r3,ZD,Cp r4,Cp r5,Cp r6]
 have hle:=NF (Dn w.ab) l;have key: ∀n j:Nat,j=Bv (Dn w.ab) l+n→j≤l.length→AL (fun s:Int=>LJ l w s) (j:Int)=some (KS l w (Bv (Dn w.ab) l)):=by
  intro n
  induction n with
  |zero=>
   intro j hj Ir;have Iq:j=Bv (Dn w.ab) l:=by omega
   refine(Ez ?_).trans (hk _ hle);show LJ l w (j:Int)=_;unfold LJ;by_cases h0:j=0
   ·rw [if_neg (by simp [h0]),Iq]
   ·have Gn:j-1<l.length:=by omega
    have ht:=Yg (lt:=Dn w.ab) (l:=l) (i:=j-1) (by omega);rw [if_pos (by simp;omega),Yw (by omega) (by omega),BA Gn,Ab,if_neg,Iq];unfold Dn at ht;have ht:(bl l[j-1].ab w.ab||l[j-1].ab==w.ab)=true:=ht;show¬(!(bl l[j-1].ab w.ab||l[j-1].ab==w.ab))=true;rw [ht];simp
  |succ n ih=>
   intro j hj Ir;have Gn:j-1<l.length:=by omega
   have ht:=iO (w:=w.ab) hr (j-1) Gn (by omega);have e:LJ l w (j:Int)=some (.inl ((j-1:Nat):Int)):=by unfold LJ;rw [if_pos (by simp;omega),Yw (by omega) (by omega),BA Gn,Ab,if_pos];have ht:(bl l[j-1].ab w.ab||l[j-1].ab==w.ab)=false:=ht;show(!(bl l[j-1].ab w.ab||l[j-1].ab==w.ab))=true;rw [ht];rfl
   rw [Fx (body:=fun s:Int=>LJ l w s) e];exact ih (j-1) (by omega) (by omega)
 unfold LS;rw [key (l.length-Bv (Dn w.ab) l) l.length (by omega) (Nat.le_refl _),fT hr]
structure OkO (o:Ap):Prop where
 key:Cc o.ab=true
 val:EO o.ak=true
 nd:o.cf=0
 kind:o.ae=2∨o.ae=3∨o.ae=6∨o.ae=7
 none:o.ae=3∨o.ae=6→o.ak= []
theorem Qd {s:Ai} (h:EO s=true):s.length≤24:=by unfold EO at h;simp only [Ac,decide_eq_true_eq]at h;omega
theorem eI {s:Ai} (h:Cc s=true):s.length≤12:=by unfold Cc at h;simp only [Ac]at h;have:=GU.1 h.1;omega
structure Fo (n:Nat) (ws:List Ag):Prop where
 c6:DX ws
 len:ws.length≤n
 dk: ∀w∈ws,Dp w=true
theorem Jn {n:Nat} {ws:List Ag} {w:Ag} (h:Fo n ws) (hw:Dp w=true):Fo (n+1) (BB wk w ws):=by
 refine⟨Qc h.c6,Nat.le_trans (TJ _) (by have:=h.len;omega),fun y hy=> ?_⟩;rcases(Qk (key:=wk) h.c6 y).1 hy with rfl|hy
 ·exact hw
 ·exact h.dk y hy.1
theorem dP {w:Ag} (h:Dp w=true):w.ak.length≤24:=by unfold Dp CW at h;simp only [Ac]at h;exact Qd h.2.1
theorem cO {ws:List Ag} {got:List As} {k:Ai} (hw: ∀w∈ws,Dp w=true) (hg: ∀g∈got,g.ak.length≤2000):(EA ws got k).1.length≤2000:=by
 unfold EA;cases e:ws.find? (fun w=>w.ab==k)with
 |some w=>have:=dP (hw w (List.mem_of_find?_eq_some e));show w.ak.length≤2000;omega
 |none=>
  unfold Mm;cases e2:got.find? (fun g=>g.ab==k)with
  |some g=>exact hg g (List.mem_of_find?_eq_some e2)
  |none=>simp
def mu (ops:List Ap) (got:List As):Nat:=(ops.filter fun o=>got.all fun g=>g.ab !=o.ab).length
theorem jG {ops:List Ap} {got:List As} {g:As} {o:Ap} (ho:o∈ops) (hk:o.ab=g.ab) (hn: ∀x∈got,x.ab≠o.ab):mu ops (got++ [g])<mu ops got:=by
 unfold mu;have e:(fun o:Ap=>(got++ [g]).all fun x=>x.ab !=o.ab)=fun o=>(got.all fun x=>x.ab !=o.ab)&&(g.ab !=o.ab):=by funext x;rw [List.all_append];simp
 have e2:ops.filter (fun o:Ap=>(got++ [g]).all fun x=>x.ab !=o.ab)=(ops.filter fun o=>got.all fun x=>x.ab !=o.ab).filter fun o=>g.ab !=o.ab:=by rw [e,List.filter_filter];congr 1;funext x;rw [Bool.and_comm]
 rw [e2];have hm:o∈ops.filter fun o=>got.all fun x=>x.ab !=o.ab:=List.mem_filter.2 ⟨ho,AN.2 fun x hx=>by simpa using hn x hx⟩;generalize ops.filter (fun o=>got.all fun x=>x.ab !=o.ab)=l at hm;have Au: ∀(l:List Ap),o∈l→(l.filter fun o=>g.ab !=o.ab).length<l.length:=by
  intro l
  induction l with
  |nil=>intro h;simp at h
  |cons y l ih=>
   intro h;rw [List.filter_cons];rcases Ae.1 h with rfl|h
   ·rw [if_neg (by simp [hk])];have:=List.length_filter_le (fun o:Ap=>g.ab !=o.ab) l;rw [AA];omega
   ·have:=ih h;split
    ·rw [AA,AA];omega
    ·rw [AA];omega
 exact Au l hm
theorem kA (ops:List Ap) (got:List As):mu ops got≤ops.length:=List.length_filter_le _ _
structure Ml (rows:List Ag):Prop where
 c6:DX rows
 len:rows.length≤24
 dk: ∀w∈rows,Dp w=true
theorem gC {rows:List Ag} {k:Ai} (h:Ml rows):(CX rows k).ak.length≤2000∧(CX rows k).ab=k:=by
 unfold CX;cases e:rows.find? (fun w=>w.ab==k)with
 |some w=>have:=dP (h.dk w (List.mem_of_find?_eq_some e));exact⟨by show w.ak.length≤2000;omega,rfl⟩
 |none=>exact⟨by simp,rfl⟩
def Ga (b:UInt8):Bool:=decide (48≤b.toNat)&&decide (b.toNat≤57)
theorem H6 {b:UInt8}:Ga b=true↔48≤b.toNat∧b.toNat≤57:=by unfold Ga;simp
def Dz (a:Nat) (l:Ai):Nat:=l.foldl (fun a b=>a*10+(b.toNat-48)) a
theorem eM (a:Nat) (l:Ai) (b:UInt8):Dz a (l++ [b])=Dz a l*10+(b.toNat-48):=by unfold Dz;rw [List.foldl_append];rfl
theorem iU: ∀(l:Ai) (a:Nat),a≤Dz a l
 | [],a=>Nat.le_refl _
 |b::l,a=>by have:=iU l (a*10+(b.toNat-48));show a≤Dz (a*10+(b.toNat-48)) l;omega
theorem iP: ∀(l:Ai) (a:Nat),l.all Ga=true→Dz a l+1≤(a+1)*10^l.length
 | [],a,_=>by simp [Dz]
 |b::l,a,h=>by rw [List.all_cons,Ac,H6]at h;have ih:=iP l (a*10+(b.toNat-48)) h.2;show Dz (a*10+(b.toNat-48)) l+1≤(a+1)*10^(l.length+1);refine Nat.le_trans ih ?_;rw [Nat.pow_succ,Nat.mul_comm (10^l.length) 10,←Nat.mul_assoc];exact Nat.mul_le_mul_right _ (by omega)
def Dy (s:Ai):Bool:= !s.isEmpty&&(s.all Ga&&(s.length==1||s.head? !=some 48))
theorem dK {t:Ai} {b:UInt8} (ht:t≠ []):Dy (t++ [b])=true↔Dy t=true∧t.head?≠some 48∧Ga b=true:=by
 obtain⟨c,r,rfl⟩:=List.exists_cons_of_ne_nil ht;unfold Dy;simp only [List.cons_append,List.isEmpty_cons,Bool.not_false,Bool.true_and,List.all_cons,List.all_append,List.all_nil,Bool.and_true,AA,AB,List.length_nil,List.head?_cons,Ac,Bool.or_eq_true,beq_iff_eq,bne_iff_ne,ne_eq,Ad];constructor
 ·rintro⟨⟨h1,h2,h3⟩,h4|h4⟩
  ·omega
  ·exact⟨⟨⟨h1,h2⟩, .inr h4⟩,h4,h3⟩
 ·rintro⟨⟨⟨h1,h2⟩,_⟩,h4,h3⟩;exact⟨⟨h1,h2,h3⟩, .inr h4⟩
theorem fY {d:Nat} (h:d<10):(UInt8.ofNat (48+d)).toNat=48+d:=by show(48+d) % 2^8=48+d;omega
theorem jB {b:UInt8} (h:Ga b=true):UInt8.ofNat (48+(b.toNat-48))=b:=by
 rw [H6]at h;apply UInt8.toNat_inj.1;show(48+(b.toNat-48)) % 2^8=b.toNat
 omega
theorem zG {s:Ai} (h:Dy s=true) (h0:s.head?≠some 48):1≤Dz 0 s:=by
 cases s with
 |nil=>simp [Dy]at h
 |cons c r=>
  have hc:Ga c=true:=by unfold Dy at h;simp only [List.all_cons,Ac]at h;exact h.2.1.1
  rw [H6]at hc;have A4:c.toNat≠48:=fun e=>h0 (by rw [List.head?_cons];congr 1;exact UInt8.toNat_inj.1 e);show 1≤Dz (0*10+(c.toNat-48)) r;have:=iU r (0*10+(c.toNat-48));omega
theorem Yl: ∀(n:Nat) (s:Ai),s.length=n→Dy s=true→Lib.decDigits (Dz 0 s)=s
 |0,s,hn,h=>by have:s= []:=List.eq_nil_of_length_eq_zero hn;subst this;simp [Dy]at h
 |n+1,s,hn,h=>by
  have A4:s≠ []:=fun e=>by rw [e]at hn;simp at hn
  have es:=(List.dropLast_concat_getLast A4).symm;generalize s.dropLast=t at es;generalize s.getLast A4=b at es;subst es;have hb:Ga b=true:=by unfold Dy at h;simp only [List.all_append,List.all_cons,List.all_nil,Bool.and_true,Ac]at h;exact h.2.1.2
  have Ip:=H6.1 hb;by_cases ht:t= []
  ·subst ht;rw [List.nil_append];rw [show Dz 0 [b]=b.toNat-48 from by simp [Dz],Lib.decDigits,dif_pos (by omega),jB hb]
  ·obtain⟨h1,h2,_⟩:=(dK ht).1 h;have hp:=zG h1 h2;rw [eM,Lib.decDigits,dif_neg (by omega),show(Dz 0 t*10+(b.toNat-48))/10=Dz 0 t by omega,show(Dz 0 t*10+(b.toNat-48)) % 10=b.toNat-48 by omega,Yl n t (by simpa using hn) h1,jB hb]
theorem Qz (u:Nat):Dy (Lib.decDigits u)=true∧Dz 0 (Lib.decDigits u)=u∧(1≤u→(Lib.decDigits u).head?≠some 48):=by
 induction u using Nat.strongRecOn with
 |_ u ih=>
  by_cases h:u<10
  ·rw [Lib.decDigits,dif_pos h];have e:=fY h;have hd:Ga (UInt8.ofNat (48+u))=true:=H6.2 (by omega);refine⟨?_, ?_,fun h1 hc=> ?_⟩
   ·unfold Dy;simp only [List.isEmpty_cons,Bool.not_false,Bool.true_and,List.all_cons,List.all_nil,Bool.and_true,hd,Bk,beq_self_eq_true,Bool.true_or]
   ·show 0*10+((UInt8.ofNat (48+u)).toNat-48)=u;omega
   ·rw [List.head?_cons]at hc;have:=congrArg UInt8.toNat (Option.some.inj hc)
    rw [e]at this;have:48+u=48:=this;omega
  ·rw [Lib.decDigits,dif_neg h];obtain⟨i1,i2,i3⟩:=ih (u/10) (by omega);have hd:u % 10<10:=Nat.mod_lt _ (by omega);have e:=fY hd;have A4:Lib.decDigits (u/10)≠ []:=fun e=>by rw [e]at i1;simp [Dy]at i1
   have JU:=i3 (by omega);have OY:(Lib.decDigits (u/10)++ [UInt8.ofNat (48+u % 10)]).head?=(Lib.decDigits (u/10)).head?:=by obtain⟨c,r,hc⟩:=List.exists_cons_of_ne_nil A4;rw [hc];rfl
   refine⟨(dK A4).2 ⟨i1,JU,H6.2 (by omega)⟩, ?_,fun _=>by rw [OY];exact JU⟩;rw [eM,i2,e];omega
theorem Qm {u:Nat} (h:u<1000000):(Lib.decDigits u).length≤6∧1≤(Lib.decDigits u).length:=by
 have key: ∀(k u:Nat),u<10^(k+1)→(Lib.decDigits u).length≤k+1:=by
  intro k
  induction k with
  |zero=>intro u hu;rw [Lib.decDigits,dif_pos (by simpa using hu)];simp
  |succ k ih=>
   intro u hu;by_cases h:u<10
   ·rw [Lib.decDigits,dif_pos h];simp
   ·rw [Lib.decDigits,dif_neg h,AB,Bk];have:=ih (u/10) (by rw [Nat.pow_succ]at hu;omega);omega
 refine⟨key 5 u (by simpa using h), ?_⟩;have:=(Qz u).1;unfold Dy at this;cases hd:Lib.decDigits u with
 |nil=>rw [hd]at this;simp at this
 |cons c r=>simp
theorem bI: ∀(l:Ai) (a:Nat),l.all Ga=true→(a+1)*10^l.length≤1000000000000000000→Lib.parseUint10 a l= .ok (Dz a l)
 | [],a,_,_=>rfl
 |b::l,a,h,hl=>by
  rw [List.all_cons,Ac,H6]at h;have ES:(a*10+(b.toNat-48)+1)*10^l.length≤1000000000000000000:=by refine Nat.le_trans ?_ hl;rw [AA,Nat.pow_succ,Nat.mul_comm (10^l.length) 10,←Nat.mul_assoc];exact Nat.mul_le_mul_right _ (by omega)
  have hp:1≤10^l.length:=Nat.one_le_pow _ _ (by decide);have hb:a*10+(b.toNat-48)+1≤1000000000000000000:=by refine Nat.le_trans ?_ ES;exact Nat.le_mul_of_pos_right _ hp
  rw [Lib.parseUint10,if_pos h.1,if_neg (by omega),if_neg (by omega)];exact bI l _ h.2 ES
theorem iL {u:Nat} (h:u<1000000):Lib.parseMag (Lib.decDigits u)= .ok u:=by
 obtain⟨d1,d2,_⟩:=Qz u;have hl:=(Qm h).1;have Cr:(Lib.decDigits u).all Ga=true:=by unfold Dy at d1;simp only [Ac]at d1;exact d1.2.1
 have A4:Lib.decDigits u≠ []:=fun e=>by rw [e]at d1;simp [Dy]at d1
 unfold Lib.parseMag;rw [if_neg A4,bI _ 0 Cr,d2];have:10^(Lib.decDigits u).length≤10^6:=Nat.pow_le_pow_right (by decide) hl;rw [Nat.zero_add,Nat.one_mul];exact Nat.le_trans this (by decide)
theorem dJ {u:Nat}: ∃c r,Lib.decDigits u=c::r∧48≤c.toNat∧c.toNat≤57:=by
 have d1:=(Qz u).1;cases hd:Lib.decDigits u with
 |nil=>rw [hd]at d1;simp [Dy]at d1
 |cons c r=>rw [hd]at d1;unfold Dy at d1;simp only [List.all_cons,Ac]at d1;exact⟨c,r,rfl,H6.1 d1.2.1.1⟩
theorem wN {n:Int} (h0: -1000000<n) (h1:n<1000000):Lib.atoiAll (Lib.itoa n)= .ok n:=by
 by_cases h:n<0
 ·have e:Lib.itoa n=45::Lib.decDigits n.natAbs:=by unfold Lib.itoa;rw [if_pos h]
  rw [e,Lib.atoiAll_minus,iL (by omega)];unfold Lib.signed;dsimp only;rw [if_neg (by omega)];congr 1;omega
 ·have e:Lib.itoa n=Lib.decDigits n.toNat:=by unfold Lib.itoa;rw [if_neg h]
  obtain⟨c,r,ec,c0,c1⟩:=dJ (u:=n.toNat);have hm:=iL (u:=n.toNat) (by omega);rw [e];rw [ec]at hm ⊢;rw [Lib.atoiAll_plain c r (by omega) (by omega),hm];unfold Lib.signless;dsimp only;rw [if_neg (by omega)];congr 1;omega
def Cg (s:Ai):Int:=if(Dm s.length 1 6&&Dy s)=true then(Dz 0 s:Int)else-1
theorem gR (s:Ai): -1≤Cg s:=by unfold Cg;split<;>omega
theorem fJ {s:Ai} (h:s.length≤2000000):PU s=some (Cg s):=by
 unfold PU Cg;rw [TZ,Ab];cases hb:Dm s.length 1 6 with
 |false=>rfl
 |true=>
  have h1:=GU.1 hb;cases s with
  |nil=>simp at h1
  |cons c r=>
   rw [if_pos rfl,show getI (c::r) 0=some c from rfl,Ab,Bool.true_and];by_cases JU:(((c.toNat:Int)==48)&&decide (((c::r).length:Int)>1))=true
   ·rw [if_pos JU,if_neg];simp only [Ac,beq_iff_eq,decide_eq_true_eq]at JU;unfold Dy;have hc:c=48:=UInt8.toNat_inj.1 (by have:(48:UInt8).toNat=48:=rfl;omega);have hl: ¬(c::r).length=1:=by omega
    rw [beq_eq_false_iff_ne.2 hl,hc];simp
   ·rw [if_neg JU];have Vt:Dy (c::r)=(c::r).all Ga:=by
     unfold Dy;have:((c::r).length==1||(c::r).head? !=some 48)=true:=by
      simp only [Ac,beq_iff_eq,decide_eq_true_eq]at JU;rw [Bool.or_eq_true];by_cases hl:(c::r).length=1
      ·exact .inl (by simpa using hl)
      ·right;rw [List.head?_cons,bne_iff_ne];intro e;have:=congrArg UInt8.toNat (Option.some.inj e)
       have h2:(48:UInt8).toNat=48:=rfl;apply JU;simp only [AA]at hl ⊢;exact⟨by omega,by omega⟩
     rw [this];simp
    rw [Vt];generalize hS:c::r=s at h h1 hb;have key: ∀(n q v:Nat),q+n=s.length→v<10^q→AL (fun s_:Int × Int=>Ks s s_.1 s_.2) ((v:Int),(q:Int))=some (if(s.drop q).all Ga=true then(Dz v (s.drop q):Int)else-1):=by
     intro n
     induction n with
     |zero=>intro q v hq _;rw [List.drop_eq_nil_of_le (show s.length≤q by omega)];refine Ez ?_;show Ks s v q=_;unfold Ks;rw [if_neg (by rw [decide_eq_true_eq];omega)];rfl
     |succ n ih=>
      intro q v hq hv;have Au:q<s.length:=by omega
      rw [List.drop_eq_getElem_cons Au,List.all_cons];by_cases hd:Ga s[q]=true
      ·have Ri:=H6.1 hd;have Px:v<1000000:=Nat.lt_of_lt_of_le hv (by
        have:10^q≤10^6:=Nat.pow_le_pow_right (by decide) (by omega);exact Nat.le_trans this (by decide))
       have w1:IntKind.i64.wrap ((10:Int)*v)=10*v:=B3 (by omega) (by omega);have w2:IntKind.u8.wrap (((s[q]).toNat:Int)-48)=((s[q]).toNat:Int)-48:=by show(((s[q]).toNat:Int)-48) % 256=_;omega
       have w3:IntKind.i64.wrap (((s[q]).toNat:Int)-48)=((s[q]).toNat:Int)-48:=B3 (by omega) (by omega);have w4:IntKind.i64.wrap ((10:Int)*v+(((s[q]).toNat:Int)-48))=((v*10+((s[q]).toNat-48):Nat):Int):=by rw [B3 (by omega) (by omega)];omega
       rw [hd,Bool.true_and];refine(Fx (?_:Ks s v q=some (.inl (((v*10+((s[q]).toNat-48):Nat):Int),((q+1:Nat):Int))))).trans (ih (q+1) _ (by omega) (by rw [Nat.pow_succ];omega));unfold Ks;rw [if_pos (decide_eq_true (by omega)),BA Au,Ab,if_neg (by simp;omega),w1,w2,w3,w4,CZ Au (by omega)]
      ·rw [Bool.eq_false_iff.2 hd,Bool.false_and,if_neg (by simp)];refine Ez ?_;show Ks s v q=_;unfold Ks;rw [if_pos (decide_eq_true (by omega)),BA Au,Ab,if_pos (by rw [Bool.or_eq_true,decide_eq_true_eq,decide_eq_true_eq];have Ri:=fun h=>hd (H6.2 h);apply Classical.byContradiction;intro hc;rw [not_or]at hc;exact Ri ⟨by omega,by omega⟩)]
    have:=key s.length 0 0 (by omega) (by simp);rw [List.drop_zero]at this;exact this
def Bw (s:Ai):Int × Bool:=if s.head?=some 45 then(if Cg s.tail<1 then(0,false)else(-Cg s.tail,true))else(if Cg s<0 then(0,false)else(Cg s,true))
theorem XV (s:Ai):Cg s<1000000:=by
 unfold Cg;split
 ·rename_i h;rw [Ac]at h;have h1:=GU.1 h.1;have Cr:s.all Ga=true:=by
   have:=h.2;unfold Dy at this;simp only [Ac]at this;exact this.2.1
  have:=iP s 0 Cr;have hp:10^s.length≤10^6:=Nat.pow_le_pow_right (by decide) (by omega);have:Dz 0 s+1≤1000000:=by refine Nat.le_trans this ?_;rw [Nat.zero_add,Nat.one_mul];exact Nat.le_trans hp (by decide)
  omega
 ·omega
theorem jJ {s:Ai} (h:s.length≤2000000):PY s=some (Bw s):=by
 have j1: ∀(y:UInt8) (v:Ai),v.length≤2000000→Su y v=some (if((decide (Cg v<0))||(((y.toNat:Int)==45)&&(Cg v==0)))=true then(0,false)else if((y.toNat:Int)==45)=true then(-Cg v,true)else(Cg v,true)):=fun y v hv=>by
  have g1:=gR v;have g2:=XV v;unfold Su;rw [fJ hv,Ab,B3 (n:=0-Cg v) (by omega) (by omega),Int.zero_sub];split
  ·rfl
  ·split<;>rfl
 unfold PY Bw;cases s with
 |nil=>rw [if_neg (by simp)];unfold aQ;rw [fJ (by simp),Ab];rfl
 |cons c r=>
  have hl:(c::r).length=r.length+1:=rfl;have hN:(if(c::r).head?=some 45 then(if Cg (c::r).tail<1 then((0:Int),false)else(-Cg (c::r).tail,true))else(if Cg (c::r)<0 then(0,false)else(Cg (c::r),true)))=if c=45 then(if Cg r<1 then((0:Int),false)else(-Cg r,true))else(if Cg (c::r)<0 then(0,false)else(Cg (c::r),true)):=by
   rw [List.head?_cons,List.tail_cons];by_cases h:c=45
   ·rw [if_pos (by rw [h]),if_pos h]
   ·rw [if_neg (fun e=>h (Option.some.inj e)),if_neg h]
  rw [hN,if_pos (by simp),show getI (c::r) 0=some c from rfl,Ab];by_cases hc:c=45
  ·subst hc;have g1:=gR r;have e45:(((45:UInt8).toNat:Int)==45)=true:=rfl;rw [if_pos e45,Cp (by omega),j1 _ _ (by rw [kK,List.length_tail];omega),kK,List.tail_cons,e45,Bool.true_and];by_cases hz:Cg r<1
   ·have hb:(decide (Cg r<0)||(Cg r==0))=true:=by rw [Bool.or_eq_true,decide_eq_true_eq,beq_iff_eq];omega
    rw [hb];simp [hz]
   ·have hb:(decide (Cg r<0)||(Cg r==0))=false:=by
     rw [Bool.or_eq_false_iff,decide_eq_false_iff_not,beq_eq_false_iff_ne];exact⟨by omega,by omega⟩
    rw [hb];simp [hz]
  ·have e45:((c.toNat:Int)==45)=false:=by
    rw [beq_eq_false_iff_ne];intro e;exact hc (UInt8.toNat_inj.1 (by have:(45:UInt8).toNat=45:=rfl;omega))
   rw [if_neg (by rw [e45];simp),j1 _ _ (by omega),e45,Bool.false_and,Bool.or_false,if_neg hc];by_cases hz:Cg (c::r)<0
   ·rw [if_pos hz,if_pos (decide_eq_true hz)]
   ·rw [if_neg hz,if_neg (by simpa using hz),if_neg (by simp)]
theorem eE {u:Nat} (h:u<1000000):Cg (Lib.decDigits u)=u:=by obtain⟨d1,d2,_⟩:=Qz u;obtain⟨l1,l2⟩:=Qm h;unfold Cg;rw [GU.2 ⟨by omega,by omega⟩,d1,if_pos (by rfl),d2]
theorem wJ {n:Int} (h0: -1000000<n) (h1:n<1000000):Bw (Lib.itoa n)=(n,true):=by
 unfold Bw;by_cases h:n<0
 ·have e:Lib.itoa n=45::Lib.decDigits n.natAbs:=by unfold Lib.itoa;rw [if_pos h]
  rw [e,List.head?_cons,if_pos rfl,List.tail_cons,eE (by omega),if_neg (by omega)];congr 1;omega
 ·have e:Lib.itoa n=Lib.decDigits n.toNat:=by unfold Lib.itoa;rw [if_neg h]
  obtain⟨c,r,ec,c0,c1⟩:=dJ (u:=n.toNat);have hd:=eE (u:=n.toNat) (by omega);rw [e];rw [if_neg,hd,if_neg (by omega)]
  ·congr 1;omega
  ·rw [ec,List.head?_cons];intro hc;have:=congrArg UInt8.toNat (Option.some.inj hc)
   have h2:(45:UInt8).toNat=45:=rfl;omega
theorem eC {s:Ai} (h:0≤Cg s):Dy s=true∧Cg s=Dz 0 s:=by
 unfold Cg at h ⊢;split at h
 ·rename_i hc;rw [if_pos hc];rw [Ac]at hc;exact⟨hc.2,rfl⟩
 ·omega
theorem XE {s:Ai} (h:(Bw s).2=true):s=Lib.itoa (Bw s).1∧ -1000000<(Bw s).1∧(Bw s).1<1000000:=by
 unfold Bw at h ⊢;split at h
 ·rename_i Io;split at h
  ·cases h
  ·rename_i hz;rw [if_pos Io,if_neg hz];dsimp only;obtain⟨n1,n2⟩:=eC (s:=s.tail) (by omega);have Au:=XV s.tail;refine⟨?_,by omega,by omega⟩;unfold Lib.itoa;rw [if_pos (by omega)];have e:(-Cg s.tail).natAbs=Dz 0 s.tail:=by omega
   rw [e,Yl _ _ rfl n1];cases s with
   |nil=>simp at Io
   |cons c r=>rw [List.head?_cons]at Io;rw [List.tail_cons,Option.some.inj Io]
 ·rename_i Io;split at h
  ·cases h
  ·rename_i hz;rw [if_neg Io,if_neg hz];dsimp only;obtain⟨n1,n2⟩:=eC (s:=s) (by omega);have Au:=XV s;refine⟨?_,by omega,by omega⟩;unfold Lib.itoa;rw [if_neg (by omega)];have e:(Cg s).toNat=Dz 0 s:=by omega
   rw [e,Yl _ _ rfl n1]
theorem wP {s:Ai} {lo hi:Int} (h0: -1000000<lo) (h1:hi<1000000):Ic s lo hi=if(Bw s).2=true∧lo≤(Bw s).1∧(Bw s).1≤hi then Bw s else(0,false):=by
 by_cases h:(Bw s).2=true
 ·obtain⟨e,b0,b1⟩:=XE h;have ha:=wN b0 b1;rw [←e]at ha;unfold Ic;rw [ha];dsimp only;by_cases hb:lo≤(Bw s).1∧(Bw s).1≤hi
  ·rw [if_pos ⟨hb.1,hb.2,e.symm⟩,if_pos ⟨h,hb⟩];rw [←h]
  ·rw [if_neg (fun q=>hb ⟨q.1,q.2.1⟩),if_neg (fun q=>hb q.2)]
 ·rw [if_neg (fun q=>h q.1)];unfold Ic;split
  ·rename_i n hn;split
   ·rename_i hq;exfalso;apply h;rw [←hq.2.2,wJ (by omega) (by omega)]
   ·rfl
  ·rfl
theorem Xg: ∀(k f u:Nat),u<10^(k+1)→k<f→u<4611686018427387904→LW f u=some (Lib.decDigits u)
 |k,0,u,_,h,_=>by omega
 |k,f+1,u,hu,hf,hb=>by
  rw [LW];by_cases h:u<10
  ·rw [if_pos (decide_eq_true (by omega)),Cp (by simp),Lib.decDigits,dif_pos h];have w1:IntKind.i64.wrap ((48:Int)+u)=48+u:=B3 (by omega) (by omega);have w2:IntKind.u8.wrap ((48:Int)+u)=48+u:=by
    show((48:Int)+u) % 256=_;omega
   rw [w1,w2];have:((48:Int)+u).toNat=48+u:=by omega
   rw [List.map_cons,List.map_nil,this]
  ·have w0:IntKind.i64.wrap (Int.tdiv (u:Int) 10)=((u/10:Nat):Int):=by
    rw [show Int.tdiv (u:Int) 10=((u/10:Nat):Int)from rfl,B3 (by omega) (by omega)]
   have w1:IntKind.i64.wrap ((48:Int)+Int.tmod (u:Int) 10)=((48+u % 10:Nat):Int):=by rw [show Int.tmod (u:Int) 10=((u % 10:Nat):Int)from rfl,B3 (by omega) (by omega)];omega
   have w2:IntKind.u8.wrap ((48+u % 10:Nat):Int)=((48+u % 10:Nat):Int):=by show((48+u % 10:Nat):Int) % 256=_;omega
   obtain⟨k,rfl⟩: ∃j,k=j+1:=⟨k-1,by
    cases k with
    |zero=>simp at hu;omega
    |succ k=>rfl⟩
   have ih:=Xg k f (u/10) (by rw [Nat.pow_succ]at hu;omega) (by omega) (by omega);have hlen:(Lib.decDigits (u/10)).length≤100:=by
    have key: ∀(k u:Nat),u<10^(k+1)→(Lib.decDigits u).length≤k+1:=by
     intro k
     induction k with
     |zero=>intro u hu;rw [Lib.decDigits,dif_pos (by simpa using hu)];simp
     |succ k ih=>
      intro u hu;by_cases h:u<10
      ·rw [Lib.decDigits,dif_pos h];simp
      ·rw [Lib.decDigits,dif_neg h,AB,Bk];have:=ih (u/10) (by rw [Nat.pow_succ]at hu;omega);omega
    have:=key 19 (u/10) (Nat.lt_of_lt_of_le (show u/10<4611686018427387904 by omega) (by decide));omega
   rw [if_neg (by simp;omega),w0,ih,Ab,w1,w2,Cp (by simp),Cp (by simp;omega)]
   conv=>rhs;rw [Lib.decDigits,dif_neg h]
   rw [List.map_cons,List.map_nil,Int.toNat_natCast]
theorem iC {n:Int} (h0: -2000000≤n) (h1:n≤2000000):PV n=some (Lib.itoa n):=by
 have hf:=gB;unfold PV S3 Lib.itoa;by_cases h:n<0
 ·have e:IntKind.i64.wrap (0-n)=((n.natAbs:Nat):Int):=by rw [B3 (by omega) (by omega)];omega
  have hd:=Xg 6 JJ n.natAbs (by omega) (by omega) (by omega);have hl:(Lib.decDigits n.natAbs).length≤100:=by
   by_cases hs:n.natAbs<1000000
   ·have:=(Qm hs).1;omega
   ·rw [Lib.decDigits,dif_neg (by omega),AB,Bk];have:=(Qm (u:=n.natAbs/10) (by omega)).1;omega
  rw [if_pos (decide_eq_true h),if_pos h,e,hd,Ab,Cp (by simp;omega)];rfl
 ·have e:n=((n.toNat:Nat):Int):=by omega
  have hd:=Xg 6 JJ n.toNat (by omega) (by omega) (by omega)
  rw [if_neg (by simpa using h),if_neg h]
  conv=>lhs;rw [e]
  rw [hd];rfl
theorem xN {n:Int} (h0: -1000000<n) (h1:n<1000000):EO (Lib.itoa n)=true:=by
 have dig: ∀u:Nat,u<1000000→(Lib.decDigits u).length≤6∧ ∀b∈Lib.decDigits u,(Eg b||([46,45,44,95]:Ai).contains b)=true:=fun u hu=>⟨(Qm hu).1,fun b hb=>by
  have:=(Qz u).1;unfold Dy at this;simp only [Ac]at this;have hd:=H6.1 (AN.1 this.2.1 b hb);have:Eg b=true:=by unfold Eg;rw [Bool.or_eq_true];right;rw [Ac,decide_eq_true_eq,decide_eq_true_eq];omega
  rw [this];rfl⟩
 unfold EO Jr;rw [Ac,decide_eq_true_eq,AN];unfold Lib.itoa;split
 ·obtain⟨d1,d2⟩:=dig n.natAbs (by omega);refine⟨by rw [AA];omega,fun b hb=> ?_⟩;rcases Ae.1 hb with rfl|hb
  ·decide
  ·exact d2 b hb
 ·obtain⟨d1,d2⟩:=dig n.toNat (by omega)
  exact⟨by omega,d2⟩
theorem eA {s:Ai} (h:(Bw s).2=false):Bw s=(0,false):=by
 unfold Bw at h ⊢;split
 ·rename_i Io;rw [if_pos Io]at h;split
  ·rfl
  ·rename_i hz;rw [if_neg hz]at h;cases h
 ·rename_i Io;rw [if_neg Io]at h;split
  ·rfl
  ·rename_i hz;rw [if_neg hz]at h;cases h
theorem gI {s:Ai} (h:s.length≤2000000):PO s=some (Bw s):=by
 unfold PO SN;rw [Cp (by omega),wP (by omega) (by omega),Ab];cases hn:(Bw s).2 with
 |false=>rw [if_neg (by simp),eA hn]
 |true=>obtain⟨_,b0,b1⟩:=XE hn;rw [if_pos ⟨rfl,by omega,by omega⟩]
structure Fq (o:Ap):Prop where
 key:Cc o.ab=true
 val:EO o.ak=true
 mh: -9999≤o.cf
 mj:o.cf≤9999
def FZ (o:Ap) (val:Ai) (there:Bool):Bool:=
 if o.ae=4 then !there||((Bw val).2&&Dm ((Bw val).1+o.cf) (-999999) 999999)else
 if o.ae=5 then(there&&(Bw val).2)&&decide ((Bw val).1≥o.cf)else
 if o.ae=6 then !there else if o.ae=7 then there&&val==o.ak else true
theorem dR (s:Ai): -1000000<(Bw s).1∧(Bw s).1<1000000:=by
 cases h:(Bw s).2 with
 |true=>exact(XE h).2
 |false=>rw [eA h];exact⟨by decide,by decide⟩
theorem xT {o:Ap} (h:Fq o) {val:Ai} {there:Bool} (hv:val.length≤2000):Sc o val there=some (FZ o val there):=by
 obtain⟨r0,r1⟩:=dR val;have b0:=h.mh;have b1:=h.mj;unfold Sc FZ;rw [gI (by omega),Ab,B3 (n:=(Bw val).1+o.cf) (by omega) (by omega),Tz];by_cases k4:o.ae=4
 ·rw [if_pos (by simpa using k4),if_pos k4];cases(Bw val).2<;>cases there<;>rfl
 rw [if_neg (by simpa using k4),if_neg k4];by_cases k5:o.ae=5
 ·rw [if_pos (by simpa using k5),if_pos k5]
 rw [if_neg (by simpa using k5),if_neg k5];by_cases k6:o.ae=6
 ·rw [if_pos (by simpa using k6),if_pos k6]
 rw [if_neg (by simpa using k6),if_neg k6];by_cases k7:o.ae=7
 ·rw [if_pos (by simpa using k7),if_pos k7]
 rw [if_neg (by simpa using k7),if_neg k7]
theorem vO {o:Ap} (h:Fq o) {val:Ai} {there:Bool} (hv:val.length≤2000):SO o val there=some (!FZ o val there):=by
 obtain⟨r0,r1⟩:=dR val;have b0:=h.mh;have b1:=h.mj;unfold SO FZ;rw [jJ (by omega),Ab,B3 (n:=(Bw val).1+o.cf) (by omega) (by omega),TZ];by_cases k4:o.ae=4
 ·rw [if_pos (by simpa using k4),if_pos k4];cases(Bw val).2<;>cases there<;>simp
 rw [if_neg (by simpa using k4),if_neg k4];by_cases k5:o.ae=5
 ·rw [if_pos (by simpa using k5),if_pos k5];have e:decide ((Bw val).1<o.cf)= !decide ((Bw val).1≥o.cf):=by
   rw [←decide_not];exact decide_eq_decide.2 (by omega)
  rw [e];cases(Bw val).2<;>cases there<;>cases decide ((Bw val).1≥o.cf)<;>rfl
 rw [if_neg (by simpa using k5),if_neg k5];by_cases k6:o.ae=6
 ·rw [if_pos (by simpa using k6),if_pos k6,Bool.not_not]
 rw [if_neg (by simpa using k6),if_neg k6];by_cases k7:o.ae=7
 ·rw [if_pos (by simpa using k7),if_pos k7];cases there<;>simp [bne]
 rw [if_neg (by simpa using k7),if_neg k7];rfl
def Bp (got:List As):List Ap→List Ag→Int × Ai × List Ag
 | [],ws=>(3, [],ws)
 |o::l,ws=>
  if o.ae=2 then Bp got l (BB wk ⟨o.ab,o.ak,false⟩ ws)else
  if o.ae=3 then Bp got l (BB wk ⟨o.ab, [],true⟩ ws)else
  if(EA ws got o.ab).2.2=true then(if FZ o (EA ws got o.ab).1 (EA ws got o.ab).2.1=true then(if o.ae=4 then Bp got l (BB wk ⟨o.ab,Lib.itoa ((Bw (EA ws got o.ab).1).1+o.cf),false⟩ ws)else Bp got l ws)else(2, [], []))
  else(1,o.ab, [])
def JN (got:List As):Prop:= ∀g∈got,g.ak.length≤2000∧(g.a7=false→g.ak= [])
theorem Xl {ws:List Ag} {got:List As} {k:Ai} (hw: ∀w∈ws,Dp w=true) (hg:JN got) (h:(EA ws got k).2.1=false):(EA ws got k).1= []:=by
 unfold EA at h ⊢;cases e:ws.find? (fun w=>w.ab==k)with
 |some w=>
  rw [e]at h;have OX:=hw w (List.mem_of_find?_eq_some e);unfold Dp CW at OX;simp only [Ac,Bool.or_eq_true,Bool.not_eq_true',beq_iff_eq]at OX;simp only [Bool.not_eq_false']at h;rcases OX.2.2 with q|q
  ·rw [h]at q;cases q
  ·exact q
 |none=>
  rw [e]at h;unfold Mm at h ⊢;cases e2:got.find? (fun g=>g.ab==k)with
  |some g=>rw [e2]at h;exact(hg g (List.mem_of_find?_eq_some e2)).2 h
  |none=>rfl
theorem Y0 {o:Ap} {val:Ai} {there:Bool} (h:Fq o) (h4:o.ae=4) (hn:there=false→val= []) (hk:FZ o val there=true):Dp ⟨o.ab,Lib.itoa ((Bw val).1+o.cf),false⟩=true:=by
 have b0:=h.mh;have b1:=h.mj;have hr: -1000000<(Bw val).1+o.cf∧(Bw val).1+o.cf<1000000:=by
  unfold FZ at hk;rw [if_pos h4]at hk;cases there with
  |false=>
   have:Bw val=(0,false):=by rw [hn rfl];rfl
   rw [this];exact⟨by dsimp only;omega,by dsimp only;omega⟩
  |true=>simp only [Bool.not_true,Bool.false_or,Ac]at hk;have:=GU.1 hk.2;omega
 unfold Dp CW;rw [h.key,xN hr.1 hr.2];rfl
theorem dA {o:Ap} {val:Ai} {there:Bool} (h:Fq o) (h4:o.ae=4) (hn:there=false→val= []) (hk:FZ o val there=true): -1000000<(Bw val).1+o.cf∧(Bw val).1+o.cf<1000000:=by
 have b0:=h.mh;have b1:=h.mj;unfold FZ at hk;rw [if_pos h4]at hk;cases there with
 |false=>
  have:Bw val=(0,false):=by rw [hn rfl];rfl
  rw [this];exact⟨by dsimp only;omega,by dsimp only;omega⟩
 |true=>simp only [Bool.not_true,Bool.false_or,Ac]at hk;have:=GU.1 hk.2;omega
theorem Xh {o:Ap} (h:Fq o):Dp ⟨o.ab,o.ak,false⟩=true:=by unfold Dp CW;simp [h.key,h.val]
theorem W4 {o:Ap} (h:Fq o):Dp ⟨o.ab, [],true⟩=true:=by unfold Dp CW;rw [h.key];rfl
theorem fD {ops:List Ap} {got:List As} (hl:ops.length≤1000) (ho: ∀o∈ops,Fq o) (hg:got.length≤2000) (hv:JN got):SI ops got=some (Bp got ops []):=by
 have key: ∀(n q:Nat) (ws:List Ag),q+n=ops.length→Fo q ws→AL (fun s:Int × List Ag=>Ew ops got s.1 s.2) ((q:Int),ws)=some (Bp got (ops.drop q) ws):=by
  intro n
  induction n with
  |zero=>intro q ws hq hw;rw [List.drop_eq_nil_of_le (by omega),Bp];refine Ez ?_;show Ew ops got q ws=_;unfold Ew;rw [if_neg (by simp;omega)]
  |succ n ih=>
   intro q ws hq hw;have Au:q<ops.length:=by omega
   have Aw:=ho _ (List.getElem_mem Au);have RA:=hw.len;have EK:=CZ Au (by omega);rw [List.drop_eq_getElem_cons Au,Bp];by_cases h2:(ops[q]).ae=2
   ·rw [if_pos h2];have e:Ew ops got q ws=some (.inl (((q+1:Nat):Int),BB wk ⟨(ops[q]).ab,(ops[q]).ak,false⟩ ws)):=by
     unfold Ew;rw [if_pos (by simpa using Au),BA Au,Ab,if_pos (by simpa using h2),Xv (by omega) hw.c6,Ab,EK]
    rw [Fx (body:=fun s:Int × List Ag=>Ew ops got s.1 s.2) e];exact ih (q+1) _ (by omega) (Jn hw (Xh Aw))
   rw [if_neg h2];by_cases h3:(ops[q]).ae=3
   ·rw [if_pos h3];have e:Ew ops got q ws=some (.inl (((q+1:Nat):Int),BB wk ⟨(ops[q]).ab, [],true⟩ ws)):=by
     unfold Ew;rw [if_pos (by simpa using Au),BA Au,Ab,if_neg (by simpa using h2),if_pos (by simpa using h3),Xv (by omega) hw.c6,Ab,EK]
    rw [Fx (body:=fun s:Int × List Ag=>Ew ops got s.1 s.2) e];exact ih (q+1) _ (by omega) (Jn hw (W4 Aw))
   rw [if_neg h3];have B6:=cO (k:=(ops[q]).ab) hw.dk fun g hg=>(hv g hg).1;have Ki:(EA ws got (ops[q]).ab).2.1=false→(EA ws got (ops[q]).ab).1= []:=fun h=>Xl (k:=(ops[q]).ab) hw.dk hv h;have FI:=u3 (k:=(ops[q]).ab) (ws:=ws) (got:=got) (by omega) (by omega) hw.c6;generalize EA ws got (ops[q]).ab=sd at B6 Ki FI;have hd:decide ((q:Int)<(ops.length:Int))=true:=decide_eq_true (by omega);have k2:((ops[q]).ae==2)=false:=by simpa using h2
   have k3:((ops[q]).ae==3)=false:=by simpa using h3
   have U4:=xT Aw (val:=sd.1) (there:=sd.2.1) B6;by_cases hs:sd.2.2=true
   ·rw [if_pos hs];by_cases hk:FZ ops[q] sd.1 sd.2.1=true
    ·rw [if_pos hk];by_cases h4:(ops[q]).ae=4
     ·rw [if_pos h4];have hr:=dA Aw h4 Ki hk;have e:Ew ops got q ws=some (.inl (((q+1:Nat):Int),BB wk ⟨(ops[q]).ab,Lib.itoa ((Bw sd.1).1+(ops[q]).cf),false⟩ ws)):=by
       unfold Ew SJ;simp only [hd,if_true,BA Au,Ab,k2,k3,A9,if_false,FI,hs,U4,hk,Bool.not_true,show((ops[q]).ae==4)=true from by simpa using h4,gI (show sd.1.length≤2000000 by omega),B3 (n:=(Bw sd.1).1+(ops[q]).cf) (by omega) (by omega),Xv (show ws.length≤2000000 by omega) hw.c6,EK]
      rw [Fx (body:=fun s:Int × List Ag=>Ew ops got s.1 s.2) e];exact ih (q+1) _ (by omega) (Jn hw (Y0 Aw h4 Ki hk))
     ·rw [if_neg h4];have e:Ew ops got q ws=some (.inl (((q+1:Nat):Int),ws)):=by
       unfold Ew;simp only [hd,if_true,BA Au,Ab,k2,k3,A9,if_false,FI,hs,U4,hk,Bool.not_true,show((ops[q]).ae==4)=false from by simpa using h4,EK]
      rw [Fx (body:=fun s:Int × List Ag=>Ew ops got s.1 s.2) e];exact ih (q+1) _ (by omega) ⟨hw.c6,by omega,hw.dk⟩
    ·rw [if_neg hk];rw [Bool.not_eq_true]at hk;refine Ez ?_;show Ew ops got q ws=_;unfold Ew;simp only [hd,if_true,BA Au,Ab,k2,k3,A9,if_false,FI,hs,U4,hk,Bool.not_true,Bool.not_false]
   ·rw [if_neg hs];rw [Bool.not_eq_true]at hs;refine Ez ?_;show Ew ops got q ws=_;unfold Ew;simp only [hd,if_true,BA Au,Ab,k2,k3,A9,if_false,FI,hs,Bool.not_false]
 exact key ops.length 0 [] (by omega) ⟨List.Pairwise.nil,Nat.le_refl _,by simp⟩
theorem gL {ops:List Ap} {got:List As} (hl:ops.length≤1000) (ho: ∀o∈ops,Fq o) (hg:got.length≤2000) (hv:JN got):SA ops got=some (Bp got ops []):=by
 have key: ∀(n q:Nat) (ws:List Ag),q+n=ops.length→Fo q ws→AL (fun s:List Ag × Int=>Ex ops got s.1 s.2) (ws,(q:Int))=some (Bp got (ops.drop q) ws):=by
  intro n
  induction n with
  |zero=>intro q ws hq hw;rw [List.drop_eq_nil_of_le (by omega),Bp];refine Ez ?_;show Ex ops got ws q=_;unfold Ex;rw [if_neg (by simp;omega)]
  |succ n ih=>
   intro q ws hq hw;have Au:q<ops.length:=by omega
   have Aw:=ho _ (List.getElem_mem Au);have RA:=hw.len;have EK:=CZ Au (by omega);have B6:=cO (k:=(ops[q]).ab) hw.dk fun g hg=>(hv g hg).1;have Ki:(EA ws got (ops[q]).ab).2.1=false→(EA ws got (ops[q]).ab).1= []:=fun h=>Xl (k:=(ops[q]).ab) hw.dk hv h;have Ef:=vZ (ws:=ws) (got:=got) (k:=(ops[q]).ab) (by omega) (by omega);rw [List.drop_eq_getElem_cons Au,Bp];generalize EA ws got (ops[q]).ab=sd at B6 Ki Ef;have J2:=vO Aw (val:=sd.1) (there:=sd.2.1) B6;have hd:decide ((q:Int)<(ops.length:Int))=true:=decide_eq_true (by omega);by_cases h2:(ops[q]).ae=2
   ·rw [if_pos h2];have k2:((ops[q]).ae==2)=true:=by simpa using h2
    have hk:FZ ops[q] sd.1 sd.2.1=true:=by unfold FZ;rw [h2];rfl
    have e:Ex ops got ws q=some (.inl (BB wk ⟨(ops[q]).ab,(ops[q]).ak,false⟩ ws,((q+1:Nat):Int))):=by unfold Ex;simp only [hd,if_true,BA Au,Ab,Ef,bne,k2,Bool.not_true,Bool.and_false,Bool.false_and,A9,if_false,J2,hk,TL (show ws.length≤2000000 by omega) hw.c6,EK]
    rw [Fx (body:=fun s:List Ag × Int=>Ex ops got s.1 s.2) e];exact ih (q+1) _ (by omega) (Jn hw (Xh Aw))
   rw [if_neg h2];have k2:((ops[q]).ae==2)=false:=by simpa using h2
   by_cases h3:(ops[q]).ae=3
   ·rw [if_pos h3];have k3:((ops[q]).ae==3)=true:=by simpa using h3
    have hk:FZ ops[q] sd.1 sd.2.1=true:=by unfold FZ;rw [h3];rfl
    have e:Ex ops got ws q=some (.inl (BB wk ⟨(ops[q]).ab, [],true⟩ ws,((q+1:Nat):Int))):=by unfold Ex;simp only [hd,if_true,BA Au,Ab,Ef,bne,k2,k3,Bool.not_true,Bool.and_false,A9,if_false,J2,hk,TL (show ws.length≤2000000 by omega) hw.c6,EK]
    rw [Fx (body:=fun s:List Ag × Int=>Ex ops got s.1 s.2) e];exact ih (q+1) _ (by omega) (Jn hw (W4 Aw))
   rw [if_neg h3];have k3:((ops[q]).ae==3)=false:=by simpa using h3
   by_cases hs:sd.2.2=true
   ·rw [if_pos hs];by_cases hk:FZ ops[q] sd.1 sd.2.1=true
    ·rw [if_pos hk];by_cases h4:(ops[q]).ae=4
     ·rw [if_pos h4];have hr:=dA Aw h4 Ki hk;have k4:((ops[q]).ae==4)=true:=by simpa using h4
      have b0:=Aw.mh;have b1:=Aw.mj;have e:Ex ops got ws q=some (.inl (BB wk ⟨(ops[q]).ab,Lib.itoa ((Bw sd.1).1+(ops[q]).cf),false⟩ ws,((q+1:Nat):Int))):=by
       unfold Ex;simp only [hd,if_true,BA Au,Ab,Ef,bne,k2,k3,k4,hs,Bool.not_true,Bool.not_false,Bool.false_and,A9,if_false,J2,hk,jJ (show sd.1.length≤2000000 by omega)];cases ht:sd.2.1 with
       |false=>
        have hz:Bw sd.1=(0,false):=by rw [Ki ht];rfl
        rw [hz]at hr ⊢;dsimp only at hr ⊢;simp only [Bool.not_false,if_true,B3 (n:=(0:Int)+(ops[q]).cf) (by omega) (by omega),iC (n:=(0:Int)+(ops[q]).cf) (by omega) (by omega),Ab,TL (show ws.length≤2000000 by omega) hw.c6,EK]
       |true=>simp only [Bool.not_true,A9,if_false,B3 (n:=(Bw sd.1).1+(ops[q]).cf) (by omega) (by omega),iC (n:=(Bw sd.1).1+(ops[q]).cf) (by omega) (by omega),Ab,TL (show ws.length≤2000000 by omega) hw.c6,EK]
      rw [Fx (body:=fun s:List Ag × Int=>Ex ops got s.1 s.2) e];exact ih (q+1) _ (by omega) (Jn hw (Y0 Aw h4 Ki hk))
     ·rw [if_neg h4];have k4:((ops[q]).ae==4)=false:=by simpa using h4
      have e:Ex ops got ws q=some (.inl (ws,((q+1:Nat):Int))):=by unfold Ex;simp only [hd,if_true,BA Au,Ab,Ef,bne,k2,k3,k4,hs,Bool.not_true,Bool.false_and,A9,if_false,J2,hk,EK]
      rw [Fx (body:=fun s:List Ag × Int=>Ex ops got s.1 s.2) e];exact ih (q+1) _ (by omega) ⟨hw.c6,by omega,hw.dk⟩
    ·rw [if_neg hk];rw [Bool.not_eq_true]at hk;refine Ez ?_;show Ex ops got ws q=_;unfold Ex;simp only [hd,if_true,BA Au,Ab,Ef,bne,k2,k3,hs,Bool.not_true,Bool.not_false,Bool.false_and,A9,if_false,J2,hk]
   ·rw [if_neg hs];rw [Bool.not_eq_true]at hs;refine Ez ?_;show Ex ops got ws q=_;unfold Ex;simp only [hd,if_true,BA Au,Ab,Ef,bne,k2,k3,hs,Bool.not_false,Bool.and_self]
 exact key ops.length 0 [] (by omega) ⟨List.Pairwise.nil,Nat.le_refl _,by simp⟩
theorem S7 {got:List As} (hv:JN got): ∀(l:List Ap) {n:Nat} {ws:List Ag},(∀o∈l,Fq o)→Fo n ws→Fo (n+l.length) (Bp got l ws).2.2∧((Bp got l ws).1=1→ ∃o∈l,o.ab=(Bp got l ws).2.1∧ ∀g∈got,g.ab≠o.ab)
 | [],n,ws,_,hw=>⟨hw,fun h=>by simp [Bp]at h⟩
 |o::l,n,ws,ho,hw=>by
  have Aw:=ho o (by simp);have hl: ∀o∈l,Fq o:=fun x hx=>ho x (by simp [hx]);have up: ∀{w:List Ag},Fo (n+l.length) w→Fo (n+(o::l).length) w:=fun h=>⟨h.c6,by have:=h.len;rw [AA];omega,h.dk⟩
  have more: ∀{ws':List Ag},Fo (n+1) ws'→Fo (n+(o::l).length) (Bp got l ws').2.2∧((Bp got l ws').1=1→ ∃x∈o::l,x.ab=(Bp got l ws').2.1∧ ∀g∈got,g.ab≠x.ab):=fun{ws'} nO=>by obtain⟨a,b⟩:=S7 hv l hl nO;refine⟨⟨a.c6,by have:=a.len;rw [AA];omega,a.dk⟩,fun h=> ?_⟩;obtain⟨x,hx,h1,h2⟩:=b h;exact⟨x,by simp [hx],h1,h2⟩
  have MM:Fo (n+1) ws:=⟨hw.c6,by have:=hw.len;omega,hw.dk⟩
  rw [Bp];split
  ·exact more (Jn hw (Xh Aw))
  ·split
   ·exact more (Jn hw (W4 Aw))
   ·split
    ·split
     ·rename_i hk;split
      ·rename_i h4;exact more (Jn hw (Y0 Aw h4 (fun h=>Xl hw.dk hv h) hk))
      ·exact more MM
     ·exact⟨⟨List.Pairwise.nil,by simp,by simp⟩,fun h=>by simp at h⟩
    ·rename_i hs;refine⟨⟨List.Pairwise.nil,by simp,by simp⟩,fun _=>⟨o,by simp,rfl,fun g hg e=> ?_⟩⟩;apply hs;unfold EA;cases e1:ws.find? (fun w=>w.ab==o.ab)with
     |some w=>rfl
     |none=>
      unfold Mm;cases e2:got.find? (fun g=>g.ab==o.ab)with
      |some g=>rfl
      |none=>rw [List.find?_eq_none]at e2;exact absurd (by simpa using e) (e2 g hg)
def Ha (rows:List Ag) (ops:List Ap):Nat→List As→List As × List Ag × Bool
 |0,got=>(got, [],false)
 |n+1,got=>if(Bp got ops []).1=1 then Ha rows ops n (got++ [CX rows (Bp got ops []).2.1])else(got,(Bp got ops []).2.2,(Bp got ops []).1==3)
theorem iV {rows:List Ag} {k:Ai} (h:Ml rows):(CX rows k).a7=false→(CX rows k).ak= []:=by
 unfold CX;cases e:rows.find? (fun w=>w.ab==k)with
 |some w=>intro h;cases h
 |none=>intro _;rfl
theorem eQ {rows:List Ag} {ops:List Ap} (hl:ops.length≤8) (ho: ∀o∈ops,Fq o) (hr:Ml rows): ∀(n:Nat) (got:List As),mu ops got<n→got.length+n≤1000→JN got→
  AL (fun s:List As=>LN rows ops s) got=some (Ha rows ops n got)∧AL (fun s:List As=>LP rows ops s) got=some (Ha rows ops n got)∧Fo 8 (Ha rows ops n got).2.1∧JN (Ha rows ops n got).1∧(Ha rows ops n got).1.length≤1000
 |0,got,hm,_,_=>by omega
 |n+1,got,hm,hg,hv=>by
  have hi:=fD (got:=got) (by omega) ho (by omega) hv;have hs:=gL (got:=got) (by omega) ho (by omega) hv;obtain⟨ga,gb⟩:=S7 hv ops (n:=0) (ws:= []) ho ⟨List.Pairwise.nil,Nat.le_refl _,by simp⟩;have hrl:=hr.len;rw [Ha];generalize Bp got ops []=r at hi hs ga gb;by_cases h1:r.1=1
  ·rw [if_pos h1];obtain⟨o,Rp,Aw,Gm⟩:=gb h1;obtain⟨t1,t2⟩:=gC (k:=r.2.1) hr;have hq:(((got).length:Int)+(([CX rows r.2.1]:List As).length:Int))*40≤140737488355328∧((got).length:Int)+(([CX rows r.2.1]:List As).length:Int)≤140737488355328:=by
    rw [Bk];omega
   have ei:LN rows ops got=some (.inl (got++ [CX rows r.2.1])):=by unfold LN;rw [hi,Ab,if_neg (by simp [h1]),yQ (by omega) hr.c6,Ab,Cp hq]
   have es:LP rows ops got=some (.inl (got++ [CX rows r.2.1])):=by unfold LP;rw [hs,Ab,if_neg (by simp [h1]),zO (by omega),Ab,Cp hq]
   rw [Fx (body:=fun s:List As=>LN rows ops s) ei,Fx (body:=fun s:List As=>LP rows ops s) es];refine eQ hl ho hr n _ ?_ (by rw [AB,Bk];omega) fun g BN=> ?_
   ·have:=jG (g:=CX rows r.2.1) Rp (Aw.trans t2.symm) Gm;omega
   ·rcases Af.1 BN with h|h
    ·exact hv g h
    ·rw [List.mem_singleton]at h;subst h;exact⟨t1,iV hr⟩
  ·rw [if_neg h1];refine⟨Ez ?_,Ez ?_,⟨ga.c6,by have:=ga.len;show r.2.2.length≤8;omega,ga.dk⟩,hv,by dsimp only;omega⟩
   ·show LN rows ops got=_;unfold LN;rw [hi,Ab,if_pos (by simpa using h1)]
   ·show LP rows ops got=_;unfold LP;rw [hs,Ab,if_pos (by simpa using h1)]
def DW (rows:List Ag) (ops:List Ap):List As × List Ag × Bool:=Ha rows ops 9 []
theorem X3 {rows:List Ag} {ops:List Ap} (hl:ops.length≤8) (ho: ∀o∈ops,Fq o) (hr:Ml rows):WJ rows ops=some (DW rows ops)∧WM rows ops=some (DW rows ops)∧Fo 8 (DW rows ops).2.1∧JN (DW rows ops).1∧(DW rows ops).1.length≤1000:=by have:=kA ops [];exact eQ hl ho hr 9 [] (by omega) (by simp) fun g hg=>by simp at hg
theorem fP (rows:List Ag) (k:Ai):(CX rows k).ab=k:=by unfold CX;split<;>rfl
theorem eZ {rows:List Ag} {ops:List Ap}: ∀(n:Nat) (got:List As),∃suf,(Ha rows ops n got).1=got++suf∧(∀g∈suf,g=CX rows g.ab)∧
  ∀(k:Nat) (hk:k<suf.length),(Bp (got++suf.take k) ops []).1=1∧(Bp (got++suf.take k) ops []).2.1=(suf[k]).ab
 |0,got=>⟨[],by simp [Ha],by simp,fun k hk=>by simp at hk⟩
 |n+1,got=>by
  rw [Ha];by_cases h1:(Bp got ops []).1=1
  ·rw [if_pos h1];obtain⟨suf,e,ht,h⟩:=eZ (rows:=rows) (ops:=ops) n (got++ [CX rows (Bp got ops []).2.1]);refine⟨CX rows (Bp got ops []).2.1::suf,by rw [e];simp,fun g hg=> ?_,fun k hk=> ?_⟩
   ·rcases Ae.1 hg with rfl|hg
    ·rw [fP]
    ·exact ht g hg
   ·cases k with
    |zero=>rw [List.take_zero,List.append_nil,List.getElem_cons_zero,fP];exact⟨h1,rfl⟩
    |succ k=>have:=h k (by simpa using hk);rw [List.append_assoc,List.singleton_append]at this;rw [List.take_succ_cons,List.getElem_cons_succ];exact this
  ·rw [if_neg h1];exact⟨[],by simp,by simp,fun k hk=>by simp at hk⟩
structure kJ (rows:List Ag) (ops:List Ap) (m:Nat) (r:List As × List Ag × Bool):Prop where
 ask:(Bp r.1 ops []).1≠1
 ws:r.2.1=(Bp r.1 ops []).2.2
 done:r.2.2=((Bp r.1 ops []).1==3)
 len:r.1.length≤m
 nodup:(r.1.map (·.ab)).Nodup
 key: ∀g∈r.1,Cc g.ab=true
theorem gQ {rows:List Ag} {ops:List Ap} (ho: ∀o∈ops,Fq o) (hr:Ml rows): ∀(n:Nat) (got:List As),mu ops got<n→JN got→(got.map (·.ab)).Nodup→(∀g∈got,Cc g.ab=true)→kJ rows ops (got.length+mu ops got) (Ha rows ops n got)
 |0,got,hm,_,_,_=>by omega
 |n+1,got,hm,hv,hn,hk=>by
  obtain⟨ga,gb⟩:=S7 hv ops (n:=0) (ws:= []) ho ⟨List.Pairwise.nil,Nat.le_refl _,by simp⟩;rw [Ha];by_cases h1:(Bp got ops []).1=1
  ·rw [if_pos h1];obtain⟨o,Rp,Aw,Gm⟩:=gb h1;obtain⟨t1,t2⟩:=gC (k:=(Bp got ops []).2.1) hr;have hd:=jG (g:=CX rows (Bp got ops []).2.1) Rp (Aw.trans t2.symm) Gm;have:=gQ ho hr n (got++ [CX rows (Bp got ops []).2.1]) (by omega) (fun g BN=>by
    rcases Af.1 BN with h|h
    ·exact hv g h
    ·rw [List.mem_singleton]at h;subst h;exact⟨t1,iV hr⟩) (by
    rw [List.map_append,List.nodup_append];refine⟨hn,by simp,fun a ha b hb=> ?_⟩;rw [List.map_cons,List.map_nil,List.mem_singleton]at hb;obtain⟨g,hg,rfl⟩:=List.mem_map.1 ha;rw [hb,t2,←Aw];exact Gm g hg) (fun g BN=>by
    rcases Af.1 BN with h|h
    ·exact hk g h
    ·rw [List.mem_singleton]at h;subst h;rw [t2,←Aw];exact(ho o Rp).key)
   refine⟨this.ask,this.ws,this.done, ?_,this.nodup,this.key⟩;have:=this.len;rw [AB,Bk]at this;omega
  ·rw [if_neg h1];exact⟨h1,rfl,rfl,by dsimp only;omega,hn,hk⟩
theorem xI {rows:List Ag} {ops:List Ap} (hl:ops.length≤8) (ho: ∀o∈ops,Fq o) (hr:Ml rows):kJ rows ops 8 (DW rows ops):=by have hm:=kA ops [];have:=gQ (rows:=rows) ho hr 9 [] (by omega) (fun g hg=>by simp at hg) (by simp) (by simp);exact⟨this.ask,this.ws,this.done,by have:=this.len;rw [List.length_nil]at this;unfold DW;omega,this.nodup,this.key⟩
def CM (o:Ap):Bool:=o.ae==2||o.ae==3||o.ae==4
def C3 (k:Ai) (l:List Ai):List Ai:=BB (fun s:Ai=>s) k l
def KK (ops:List Ap):List Ai:=((ops.filter CM).map (·.ab)).foldl (fun o k=>C3 k o) []
theorem TO (w:Ag): ∀(l:List Ag),(BB wk w l).map (·.ab)=C3 w.ab (l.map (·.ab))
 | []=>rfl
 |y::l=>by
  have ih:=TO w l;unfold C3 at ih ⊢;rw [List.map_cons,BB,BB];show List.map _ (if bl w.ab y.ab=true then _ else if w.ab=y.ab then _ else _)=_;split
  ·rfl
  ·split
   ·rename_i e;rw [List.map_cons]
   ·rw [List.map_cons,ih]
theorem P0 {got:List As}: ∀(l:List Ap) (ws:List Ag),(Bp got l ws).1=3→(Bp got l ws).2.2.map (·.ab)=((l.filter CM).map (·.ab)).foldl (fun o k=>C3 k o) (ws.map (·.ab))
 | [],ws,_=>rfl
 |o::l,ws,h=>by
  rw [Bp]at h ⊢;by_cases h2:o.ae=2
  ·rw [if_pos h2]at h ⊢;rw [P0 l _ h,TO,List.filter_cons,if_pos (by simp [CM,h2])];rfl
  rw [if_neg h2]at h ⊢;by_cases h3:o.ae=3
  ·rw [if_pos h3]at h ⊢;rw [P0 l _ h,TO,List.filter_cons,if_pos (by simp [CM,h3])];rfl
  rw [if_neg h3]at h ⊢;split at h
  ·rename_i hs;rw [if_pos hs];split at h
   ·rename_i hk;rw [if_pos hk];by_cases h4:o.ae=4
    ·rw [if_pos h4]at h ⊢;rw [P0 l _ h,TO,List.filter_cons,if_pos (by simp [CM,h4])];rfl
    ·rw [if_neg h4]at h ⊢;rw [P0 l _ h,List.filter_cons,if_neg (by simp [CM,h2,h3,h4])]
   ·simp at h
  ·simp at h
theorem P1 {got:List As}: ∀(l:List Ap) (ws:List Ag),(Bp got l ws).1=1∨(Bp got l ws).1=3∨((Bp got l ws).1=2∧(Bp got l ws).2.2= [])
 | [],ws=> .inr (.inl rfl)
 |o::l,ws=>by
  rw [Bp];split
  ·exact P1 l _
  ·split
   ·exact P1 l _
   ·split
    ·split
     ·split
      ·exact P1 l _
      ·exact P1 l _
     ·exact .inr (.inr ⟨rfl,rfl⟩)
    ·exact .inl rfl
theorem vE {rows:List Ag} {k:Ai}:(CX rows k).a7=rows.any fun r=>r.ab==k&&r.ak==(CX rows k).ak:=by
 unfold CX;cases e:rows.find? (fun w=>w.ab==k)with
 |some w=>have h1:=List.mem_of_find?_eq_some e;have h2:=List.find?_some e;symm;show rows.any (fun r=>r.ab==k&&r.ak==w.ak)=true;rw [List.any_eq_true];exact⟨w,h1,by simpa using h2⟩
 |none=>rw [List.find?_eq_none]at e;symm;show rows.any (fun r=>r.ab==k&&r.ak== [])=false;rw [List.any_eq_false];intro x hx;have:=e x hx;simp at this ⊢;intro h;exact absurd h this
theorem eK {k:Nat}: ∀{xs:List Ai},(∀s∈xs,s.length≤k)→JF xs≤k*xs.length
 | [],_=>by simp [JF]
 |s::xs,h=>by have h1:=h s (by simp);have h2:=eK (k:=k) (xs:=xs) fun y hy=>h y (by simp [hy]);simp only [JF,AA,Nat.mul_add,Nat.mul_one];omega
def Ug (s:Ai):Prop:= ∀b∈s,(Eg b||([46,47]:Ai).contains b)=true
theorem wC {s:Ai} (h:field s=true): ∀b∈s,Eg b=true:=by unfold field Jr at h;simp only [Ac]at h;intro b hb;have:=AN.1 h.2 b hb;simpa using this
theorem Xe {s:Ai} {k:Int} (h:Fk s k=true): ∀b∈s,Eg b=true:=by unfold Fk at h;simp only [Ac]at h;intro b hb;have:=AN.1 h.1 b hb;unfold small at this;unfold Eg;simp only [Bool.not_eq_true',Bool.or_eq_false_iff,decide_eq_false_iff_not]at this;simp only [Bool.or_eq_true,Ac,decide_eq_true_eq];left;omega
theorem Ug.app {s u:Ai} (h:Ug s) (k:Ug u):Ug (s++u):=fun b hb=>by
 rcases Af.1 hb with hb|hb
 ·exact h b hb
 ·exact k b hb
theorem dB {t:A7} {r:Dq} (h:Dv t r=true): ∀x∈r.bm,∀b∈x,Eg b=true:=by unfold Dv at h;simp only [Ac]at h;exact fun x hx=>wC (AN.1 h.2 x hx)
theorem Yp {t:A7} {r:Dq} (h:Dv t r=true) (c:Int): ∀b∈Eh r c,Eg b=true:=by
 unfold Eh;cases e:r.bm[c.toNat]? with
 |none=>simp
 |some s=>exact dB h s (List.mem_of_getElem? e)
theorem Tp {l:List Ag} (h:GR l=true):Ml l∧ ∀w∈l,w.bd=false:=by unfold GR at h;rw [Ac]at h;have hr:=rC h.1;have h1:=h.1;unfold Iz at h1;simp only [Ac,decide_eq_true_eq]at h1;exact⟨⟨hr,by omega,AN.1 h1.2.1⟩,fun w hw=>by simpa using AN.1 h.2 w hw⟩
def TV (rows ws:List Ag):List Ag:=(ws.foldl (fun o w=>BB wk w o) rows).filter fun w=> !w.bd
theorem Tb {c:UInt8}: ∀{p q:Ai},(∀b∈p,b≠c)→F4 c (p++ [c]++q)=p::F4 c q:=fun{p q} h=>by rw [List.append_assoc];exact dU h
theorem Me {b:UInt8} (h:Eg b=true):b≠47∧b≠44∧b≠46:=by refine⟨?_, ?_, ?_⟩<;>(rintro rfl;revert h;decide)
theorem zvx {t:A7} {n:Ai} (hg:Eu t=true) (hn:Fk n 1=true): ∀b∈head t n,b≠47:=by
 intro b hb;unfold head at hb;simp only [Af,List.mem_singleton]at hb;rcases hb with(hb|hb)|hb
 ·exact(Me (Xe (XF hg) b hb)).1
 ·subst hb;decide
 ·exact(Me (Xe hn b hb)).1
theorem Ny {t:A7} {n:Ai} {c:Int} {r:Dq} (hg:Eu t=true) (hn:Fk n 1=true) (h:Dv t r=true):F4 47 (Ej t n c r)= [head t n,Eh r c,Eh r 0]:=by unfold Ej;rw [show head t n++ [47]++Eh r c++ [47]++Eh r 0=head t n++ [47]++(Eh r c++ [47]++Eh r 0) by simp,Tb (zvx hg hn),Tb fun b hb=>(Me (Yp h c b hb)).1,SX fun b hb=>(Me (Yp h 0 b hb)).1]
theorem L2 (t:A7) (r:Dq):(Db t r).ab=t.aw++ [47]++Eh r 0:=by unfold Db Eh;rw [List.head?_eq_getElem?];rfl
theorem dM {t:A7} {r:Dq} (hg:Eu t=true) (h:Dv t r=true):F4 47 (Db t r).ab= [t.aw,Eh r 0]:=by rw [L2,Tb fun b hb=>(Me (Xe (XF hg) b hb)).1,SX fun b hb=>(Me (Yp h 0 b hb)).1]
theorem uX {t:A7} {n:Ai} {r:Dq} (hg:Eu t=true) (h:Dv t r=true):F3 t n (Db t r).ab=false:=by unfold F3;rw [dM hg h]
theorem eB {t:A7} {r:Dq} {c:Int} (h:Dv t r=true) (h0:0≤c) (h1:c≤(t.cr.length:Int)-1):field (Eh r c)=true:=by
 unfold Dv at h;simp only [Ac,beq_iff_eq]at h;have hl:c.toNat<r.bm.length:=by have:=h.1;omega
 unfold Eh;rw [List.getElem?_eq_getElem hl];exact AN.1 h.2 _ (List.getElem_mem hl)
theorem Tn {t:A7} {n m:Ai} {c:Int} {r:Dq} (hg:Eu t=true) (hm:Fk m 1=true) (h:Dv t r=true) (h0:0≤c) (h1:c≤(t.cr.length:Int)-1):F3 t n (Ej t m c r)=decide (m=n):=by
 have hc:=gK hg;unfold F3;rw [Ny hg hm h];simp only [eB h h0 h1,eB h (show(0:Int)≤0 by omega) (by omega),Bool.and_true];rw [Bool.eq_iff_iff];simp only [beq_iff_eq,decide_eq_true_eq];unfold head;constructor
 ·intro e;exact List.append_cancel_left e
 ·rintro rfl;rfl
theorem tJ {t:A7} {n:Ai} {c:Int} {r r':Dq} (hg:Eu t=true) (hn:Fk n 1=true) (h:Dv t r=true) (h':Dv t r'=true) (e:Ej t n c r=Ej t n c r'):Eh r 0=Eh r' 0:=by have h1:=Ny (c:=c) hg hn h;rw [e,Ny hg hn h']at h1;simp only [List.cons.injEq,and_true]at h1;exact h1.2.2.symm
theorem Xf {t:A7} {n:Ai} {c:Int} {r r':Dq} (hg:Eu t=true) (hn:Fk n 1=true) (h:Dv t r=true) (h':Dv t r'=true):(Db t r).ab≠Ej t n c r':=by intro e;have h1:=dM hg h;rw [e,Ny hg hn h']at h1;simp at h1
theorem vG {xs:List Ai} (hx:xs≠ []) (h: ∀x∈xs,∀b∈x,b≠44):F4 44 (Lib.join xs [44])=xs:=by
 induction xs with
 |nil=>exact absurd rfl hx
 |cons x r ih=>
  cases r with
  |nil=>rw [Lib.join_one,SX (h x (by simp))]
  |cons y r=>
   have e:Lib.join (x::y::r) [44]=x++ [44]++Lib.join (y::r) [44]:=by rw [Lib.join_cons,Lib.join_cons];simp [Lib.joinTail]
   rw [e,Tb (h x (by simp)),ih (by simp) fun z hz=>h z (by simp [hz])]
theorem TA {t:A7} {r:Dq} (hg:Eu t=true) (h:Dv t r=true):G8 (Db t r)=r:=by
 have hc:=gK hg;have hn:=tH (XF hg);have hl:=h;unfold Dv at hl;simp only [Ac,beq_iff_eq]at hl;have hf:=dB h;obtain⟨vs⟩:=r;cases vs with
 |nil=>simp at hl;omega
 |cons v vs=>
  have A4:vs≠ []:=by rintro rfl;simp at hl;omega
  unfold G8 Db;simp only [List.head?_cons,Option.getD_some,List.tail_cons];rw [vG A4 fun x hx b hb=>(Me (hf x (by simp [hx]) b hb)).2.1];congr 1;congr 1;have:(t.aw++ [47]++v).drop 2=v:=by rw [List.drop_append_of_le_length (by simp [hn])];rw [List.drop_of_length_le (by simp [hn])];rfl
  exact this
theorem zxh {t:A7} {r:Dq} (hg:Eu t=true) (h:Dv t r=true):H9 t (Db t r)=true:=by unfold H9;rw [TA hg h,h];unfold YN;simp
theorem Qh {t:A7} {w:Ag} (h:H9 t w=true):Dv t (G8 w)=true∧w=Db t (G8 w):=by unfold H9 YN at h;simp only [Ac,beq_iff_eq]at h;obtain⟨h1,h2,h3,h4⟩:=h;refine⟨h1, ?_⟩;cases w;cases hq:Db t (G8 _);rename_i a b c d e f;rw [hq]at h2 h3 h4;simp only at h2 h3 h4;rw [h2,h3,h4]
def G2 (t:A7) (a:DU):List Ag:=
 if a.ae=1 then [⟨(Db t a.cu).ab,(Db t a.cu).ak,false⟩]else
 if a.ae=2 then [⟨(Db t a.c7).ab, [],true⟩]else [⟨(Db t a.c7).ab,(Db t a.cu).ak,false⟩]
def Hr (t:A7) (a:DU) (x:Cq):List Ag:=
 (if G9 t a x≠ []∧G9 t a x≠F9 t a x∧x.b8≥1 then [⟨G9 t a x, [],true⟩]else [])++(if F9 t a x≠ []∧x.b8≥2 then [⟨F9 t a x, [],false⟩]else [])
def D8 (t:A7) (a:DU):List Ag:=G2 t a++t.bq.flatMap (Hr t a)
def Yx (t:A7) (a:DU) (st st':List Ag):Prop:=
 ∀y,y∈st'↔y.bd=false∧(y∈D8 t a∨y∈st∧ ∀w∈D8 t a,w.ab≠y.ab)
def kP (t:A7) (a:DU) (st:List Ag):Prop:=
 (a.ae=1→ ∀w∈st,w.ab≠(Db t a.cu).ab)∧(a.ae≠1→Db t a.c7∈st)
def Q4 (t:A7) (n:Ai) (st:List Ag):Prop:= ∀w∈st,F3 t n w.ab=false
def Oj (t:A7) (n:Ai) (x:Cq) (st:List Ag):Prop:= ∀w∈st,F3 t n w.ab=true→ ∃q∈st,H9 t q=true∧w.ab=Ej t n x.da (G8 q)
def Q5 (t:A7) (n:Ai) (x:Cq) (st:List Ag):Prop:= ∀q∈st,H9 t q=true→ ∃w∈st,w.ab=Ej t n x.da (G8 q)
structure EV (t:A7) (a:DU):Prop where
 tab:Eu t=true
 old:a.ae≠1→Dv t a.c7=true
 new:a.ae≠2→Dv t a.cu=true
 kind:a.ae=1∨a.ae=2∨a.ae=3
 same:a.ae=3→Eh a.c7 0=Eh a.cu 0
structure Ik (t:A7) (a:DU) (n:Ai) (x:Cq):Prop extends EV t a where
 idx:x∈t.bq
 name:x.aw=n
theorem Yv (t:A7) (m:Ai) (c:Int) (r:Dq):Ej t m c r≠ []:=by unfold Ej;simp
section
variable {t:A7} {a:DU} (A:EV t a)
include A
theorem EV.dj (h:a.ae≠1) {y:Cq}:G9 t a y=Ej t y.aw y.da a.c7:=by have _:=A;unfold G9;rw [if_neg h]
theorem EV.dh (h:a.ae≠2) {y:Cq}:F9 t a y=Ej t y.aw y.da a.cu:=by have _:=A;unfold F9;rw [if_neg h]
theorem EV.eg {y:Cq} {w:Ag} (hw:w∈Hr t a y):(w=⟨G9 t a y, [],true⟩∧a.ae≠1∧G9 t a y≠F9 t a y∧y.b8≥1)∨(w=⟨F9 t a y, [],false⟩∧a.ae≠2∧y.b8≥2):=by
 have _:=A;unfold Hr at hw;rcases Af.1 hw with hw|hw
 ·split at hw
  ·rename_i h;rw [List.mem_singleton]at hw;refine .inl ⟨hw,fun k=> ?_,h.2.1,h.2.2⟩;apply h.1;unfold G9;rw [if_pos k]
  ·simp at hw
 ·split at hw
  ·rename_i h;rw [List.mem_singleton]at hw;refine .inr ⟨hw,fun k=> ?_,h.2⟩;apply h.1;unfold F9;rw [if_pos k]
  ·simp at hw
theorem EV.ch {n:Ai} {y:Cq} (hy:y∈t.bq) {w:Ag} (hw:w∈Hr t a y): ∃r,Dv t r=true∧w.ab=Ej t y.aw y.da r∧F3 t n w.ab=decide (y.aw=n):=by
 have hc:=GU.1 (Jm A.tab hy).2;have hl:=(Jm A.tab hy).1;rcases A.eg hw with⟨rfl,h,_⟩|⟨rfl,h,_⟩
 ·refine⟨a.c7,A.old h,A.dj h, ?_⟩;show F3 t n (G9 t a y)=_;rw [A.dj h];exact Tn A.tab hl (A.old h) (by omega) hc.2
 ·refine⟨a.cu,A.new h,A.dh h, ?_⟩;show F3 t n (F9 t a y)=_;rw [A.dh h];exact Tn A.tab hl (A.new h) (by omega) hc.2
theorem EV.ew {w:Ag} (hw:w∈G2 t a): ∃r,Dv t r=true∧w.ab=(Db t r).ab:=by
 unfold G2 at hw;split at hw
 ·rename_i h;rw [List.mem_singleton]at hw;subst hw;exact⟨a.cu,A.new (by omega),rfl⟩
 ·rename_i h;split at hw
  ·rw [List.mem_singleton]at hw;subst hw;exact⟨a.c7,A.old h,rfl⟩
  ·rw [List.mem_singleton]at hw;subst hw;exact⟨a.c7,A.old h,rfl⟩
theorem EV.fb {w:Ag} (hw:w∈D8 t a):w∈G2 t a∨ ∃y∈t.bq,w∈Hr t a y:=by
 have _:=A;unfold D8 at hw;rcases Af.1 hw with h|h
 ·exact .inl h
 ·exact .inr (List.mem_flatMap.1 h)
theorem EV.j0 (h:a.ae≠2):Db t a.cu∈D8 t a:=by
 refine Af.2 (.inl ?_);unfold G2;rcases A.kind with k|k|k
 ·rw [if_pos k];exact List.mem_singleton.2 rfl
 ·exact absurd k h
 ·rw [if_neg (by omega),if_neg (by omega),List.mem_singleton,L2,A.same k,←L2];rfl
theorem EV.ir {w:Ag} (hw:w∈D8 t a) (hr:H9 t w=true):w=Db t a.cu∧a.ae≠2:=by
 obtain⟨HE,EK⟩:=Qh hr;rcases A.fb hw with h|⟨y,hy,h⟩
 ·unfold G2 at h;rcases A.kind with k|k|k
  ·rw [if_pos k,List.mem_singleton]at h;exact⟨h,by omega⟩
  ·rw [if_neg (by omega),if_pos k,List.mem_singleton]at h;have:w.bd=true:=by rw [h]
   rw [EK]at this;cases this
  ·rw [if_neg (by omega),if_neg (by omega),List.mem_singleton,L2,A.same k,←L2]at h;exact⟨h,by omega⟩
 ·obtain⟨r,Lb,e,_⟩:=A.ch (n:= []) hy h;rw [EK]at e;exact absurd e (Xf A.tab (Jm A.tab hy).1 HE Lb)
theorem EV.je {w q:Ag} (hw:w∈D8 t a) (hq:H9 t q=true) (e:w.ab=q.ab):w∈G2 t a:=by
 obtain⟨HE,EK⟩:=Qh hq;rcases A.fb hw with h|⟨y,hy,h⟩
 ·exact h
 ·obtain⟨r,Lb,e2,_⟩:=A.ch (n:= []) hy h;rw [e,EK]at e2;exact absurd e2 (Xf A.tab (Jm A.tab hy).1 HE Lb)
theorem EV.iu (h:a.ae≠1) {w:Ag} (hw:w∈G2 t a):w.ab=(Db t a.c7).ab:=by have _:=A;unfold G2 at hw;rw [if_neg h]at hw;split at hw<;>(rw [List.mem_singleton]at hw;rw [hw])
theorem EV.gq (h:a.ae≠1): ∃w∈D8 t a,w.ab=(Db t a.c7).ab:=by have _:=A;unfold D8 G2;rw [if_neg h];split<;>exact⟨_,Af.2 (.inl (List.mem_singleton.2 rfl)),rfl⟩
theorem EV.il (h:a.ae=1) {w:Ag} (hw:w∈G2 t a):w.ab=(Db t a.cu).ab:=by have _:=A;unfold G2 at hw;rw [if_pos h,List.mem_singleton]at hw;rw [hw]
end
section
variable {t:A7} {a:DU} {n:Ai} {x:Cq} (A:Ik t a n x)
include A
theorem Ik.la:Fk n 1=true:=by rw [←A.name];exact(Jm A.tab A.idx).1
theorem Ik.mg:1≤x.da∧x.da≤(t.cr.length:Int)-1:=GU.1 (Jm A.tab A.idx).2
theorem Ik.ib {w:Ag} (hw:w∈Hr t a x):w∈D8 t a:=by unfold D8;exact Af.2 (.inr (List.mem_flatMap.2 ⟨x,A.idx,hw⟩))
theorem Ik.df {w:Ag} (hw:w∈D8 t a) (he:F3 t n w.ab=true):w∈Hr t a x:=by
 rcases A.fb hw with h|⟨y,hy,h⟩
 ·obtain⟨r,hr,e⟩:=A.ew h;rw [e,uX A.tab hr]at he;cases he
 ·obtain⟨r,_,_,e⟩:=A.ch (n:=n) hy h;rw [e,decide_eq_true_eq]at he;have:y=x:=(fN A.tab).gh hy A.idx (he.trans A.name.symm);rw [←this];exact h
variable {st st':List Ag} (hB:Yx t a st st')
include hB
theorem Ik.iq (hs:x.b8≤1) (h:Q4 t n st):Q4 t n st':=by
 intro y hy;cases he:F3 t n y.ab with
 |false=>rfl
 |true=>
  obtain⟨Em,h1|h1⟩:=(hB y).1 hy
  ·rcases A.eg (A.df h1 he)with⟨e,_⟩|⟨_,_,k⟩
   ·rw [e]at Em;cases Em
   ·omega
  ·rw [h y h1.1]at he;cases he
theorem Ik.dt (hr:DX st) (hA:kP t a st) (hs:1≤x.b8) (h:Oj t n x st):Oj t n x st':=by
 have AM:a.ae≠2→ ∃q∈st',H9 t q=true∧G8 q=a.cu:=fun k=>
  ⟨Db t a.cu,(hB _).2 ⟨rfl, .inl (A.j0 k)⟩,zxh A.tab (A.new k),TA A.tab (A.new k)⟩
 intro y hy he;obtain⟨Em,h1|⟨h1,h2⟩⟩:=(hB y).1 hy
 ·rcases A.eg (A.df h1 he)with⟨e,_⟩|⟨e,k,_⟩
  ·rw [e]at Em;cases Em
  ·obtain⟨q,q1,q2,q3⟩:=AM k;refine⟨q,q1,q2, ?_⟩;rw [q3,e];show F9 t a x=_;rw [A.dh k,A.name]
 ·obtain⟨q,q1,q2,q3⟩:=h y h1 he;obtain⟨HE,EK⟩:=Qh q2;by_cases ho: ∀w∈D8 t a,w.ab≠q.ab
  ·exact⟨q,(hB q).2 ⟨by rw [EK];rfl, .inr ⟨q1,ho⟩⟩,q2,q3⟩
  ·have⟨w,hw,e⟩: ∃w∈D8 t a,w.ab=q.ab:=by
    apply Classical.byContradiction;intro hc;exact ho fun w hw e=>hc ⟨w,hw,e⟩
   have ZE:=A.je hw q2 e;by_cases k1:a.ae=1
   ·exact absurd (e.symm.trans (A.il k1 ZE)) (hA.1 k1 q q1)
   ·have hq:q=Db t a.c7:=Da.gh (key:=fun w:Ag=>w.ab) hr q1 (hA.2 k1) (e.symm.trans (A.iu k1 ZE));have FX:y.ab=G9 t a x:=by
     rw [q3,hq,TA A.tab (A.old k1),A.dj k1,A.name]
    have Gm:G9 t a x=F9 t a x:=by
     apply Classical.byContradiction;intro hc;have hm:(⟨G9 t a x, [],true⟩:Ag)∈Hr t a x:=by unfold Hr;rw [if_pos ⟨by rw [A.dj k1];exact Yv _ _ _ _,hc,hs⟩];simp
     exact h2 _ (A.ib hm) FX.symm
    have k2:a.ae≠2:=by
     intro k;have:F9 t a x= []:=by unfold F9;rw [if_pos k]
     rw [this,A.dj k1]at Gm;exact Yv _ _ _ _ Gm
    obtain⟨p,p1,p2,p3⟩:=AM k2;refine⟨p,p1,p2, ?_⟩;rw [p3,FX,Gm,A.dh k2,A.name]
theorem Ik.gu (hn: ∀w∈st,w.bd=false) (hs:2≤x.b8) (h:Q5 t n x st):Q5 t n x st':=by
 intro q hq hr;obtain⟨HE,EK⟩:=Qh hr;obtain⟨Em,h1|⟨h1,h2⟩⟩:=(hB q).1 hq
 ·obtain⟨e,k⟩:=A.ir h1 hr;have hm:(⟨F9 t a x, [],false⟩:Ag)∈Hr t a x:=by
   unfold Hr;refine Af.2 (.inr ?_);rw [if_pos ⟨by rw [A.dh k];exact Yv _ _ _ _,hs⟩];simp
  refine⟨_,(hB _).2 ⟨rfl, .inl (A.ib hm)⟩, ?_⟩;show F9 t a x=_;rw [e,TA A.tab (A.new k),A.dh k,A.name]
 ·obtain⟨w,w1,w2⟩:=h q h1 hr;by_cases ho: ∀z∈D8 t a,z.ab≠w.ab
  ·exact⟨w,(hB w).2 ⟨hn w w1, .inr ⟨w1,ho⟩⟩,w2⟩
  ·have⟨z,hz,e⟩: ∃z∈D8 t a,z.ab=w.ab:=by
    apply Classical.byContradiction;intro hc;exact ho fun z hz e=>hc ⟨z,hz,e⟩
   have he:F3 t n z.ab=true:=by rw [e,w2,Tn A.tab A.la HE (by have:=A.mg;omega) A.mg.2];simp
   rcases A.eg (A.df hz he)with⟨e1,k1,_⟩|⟨e1,k2,_⟩
   ·exfalso;have hk:Ej t n x.da a.c7=Ej t n x.da (G8 q):=by
     have:z.ab=G9 t a x:=by rw [e1]
     rw [e,w2,A.dj k1,A.name]at this;exact this.symm
    have hp:=tJ A.tab A.la (A.old k1) HE hk;obtain⟨u,u1,u2⟩:=A.gq k1;apply h2 u u1;rw [u2,EK,L2,L2,hp]
   ·exact⟨z,(hB z).2 ⟨by rw [e1], .inl hz⟩,e.trans w2⟩
end
theorem cX {t:A7} {n:Ai} {x:Cq} {st:List Ag}:holds t n x 0 st=true↔Q4 t n st:=by
 unfold holds KB Q4;rw [if_pos (by rfl)];simp only [List.length_map,beq_iff_eq];constructor
 ·intro h w hw;have h0:(st.filter fun w=>F3 t n w.ab)= []:=List.eq_nil_of_length_eq_zero (by omega);have:=List.filter_eq_nil_iff.1 h0 w hw;simpa using this
 ·intro h;rw [List.filter_eq_nil_iff.2 fun w hw=>by rw [h w hw];simp];rfl
theorem XT {a b:List Ai}:((Ud a b).length:Int)=0↔ ∀k∈a,k∈b:=by
 unfold Ud;constructor
 ·intro h k hk;have h0:(a.filter fun k=> !b.contains k)= []:=List.eq_nil_of_length_eq_zero (by omega);have:=List.filter_eq_nil_iff.1 h0 k hk;simpa using this
 ·intro h;rw [List.filter_eq_nil_iff.2 fun k hk=>by simpa using h k hk];rfl
theorem Tc {t:A7} {n:Ai} {x:Cq} {st:List Ag} {k:Ai}:k∈wanted t n x st↔ ∃q∈st,H9 t q=true∧k=Ej t n x.da (G8 q):=by
 unfold wanted rows;simp only [List.mem_map,List.mem_filter];constructor
 ·rintro⟨r,⟨q,⟨h1,h2⟩,rfl⟩,rfl⟩;exact⟨q,h1,h2,rfl⟩
 ·rintro⟨q,h1,h2,rfl⟩;exact⟨_,⟨q,⟨h1,h2⟩,rfl⟩,rfl⟩
theorem SW {t:A7} {n:Ai} {st:List Ag} {k:Ai}:k∈KB t n st↔ ∃w∈st,F3 t n w.ab=true∧k=w.ab:=by
 unfold KB;simp only [List.mem_map,List.mem_filter];constructor
 ·rintro⟨w,⟨h1,h2⟩,rfl⟩;exact⟨w,h1,h2,rfl⟩
 ·rintro⟨w,h1,h2,rfl⟩;exact⟨w,⟨h1,h2⟩,rfl⟩
theorem iI {t:A7} {n:Ai} {x:Cq} {st:List Ag}:(∀k∈KB t n st,k∈wanted t n x st)↔Oj t n x st:=by
 constructor
 ·intro h w hw he;exact Tc.1 (h w.ab (SW.2 ⟨w,hw,he,rfl⟩))
 ·intro h k hk;obtain⟨w,hw,he,rfl⟩:=SW.1 hk;exact Tc.2 (h w hw he)
theorem dZ {t:A7} {n:Ai} {x:Cq} {st:List Ag}:holds t n x 1 st=true↔Oj t n x st:=by rw [←iI,←XT];unfold holds;rw [if_neg (by decide)];simp
theorem z6 {t:A7} {a:DU} {n:Ai} {x:Cq} {st:List Ag} (A:Ik t a n x):(∀k∈wanted t n x st,k∈KB t n st)↔Q5 t n x st:=by
 constructor
 ·intro h q hq hr;obtain⟨w,hw,_,e⟩:=SW.1 (h _ (Tc.2 ⟨q,hq,hr,rfl⟩));exact⟨w,hw,e.symm⟩
 ·intro h k hk;obtain⟨q,hq,hr,rfl⟩:=Tc.1 hk;obtain⟨w,hw,e⟩:=h q hq hr;refine SW.2 ⟨w,hw, ?_,e.symm⟩;rw [e,Tn A.tab A.la (Qh hr).1 (by have:=A.mg;omega) A.mg.2];simp
theorem eW {t:A7} {a:DU} {n:Ai} {x:Cq} {st:List Ag} (A:Ik t a n x):holds t n x 2 st=true↔Oj t n x st∧Q5 t n x st:=by rw [←iI,←z6 A,←XT,←XT];unfold holds;rw [if_neg (by decide)];simp
theorem keeps {t:A7} {a:DU} {n:Ai} {x:Cq} {st st':List Ag} {low:Int} (A:Ik t a n x) (hg:GR st=true) (hA:kP t a st) (hB:Yx t a st st')
  (hl:low=0∧x.b8≤1∨low=1∧1≤x.b8∨low=2∧2≤x.b8) (h:holds t n x low st=true):holds t n x low st'=true:=by
 obtain⟨hr,hn⟩:=Tp hg;rcases hl with⟨rfl,hs⟩|⟨rfl,hs⟩|⟨rfl,hs⟩
 ·exact cX.2 (A.iq hB hs (cX.1 h))
 ·exact dZ.2 (A.dt hB hr.c6 hA hs (dZ.1 h))
 ·have h2:=(eW A).1 h;exact(eW A).2 ⟨A.dt hB hr.c6 hA (by omega) h2.1,A.gu hB hn hs h2.2⟩
abbrev QF (l:List Ag):Prop:=l.Pairwise fun a b=>a.ab≠b.ab
theorem XQ: ∀(l:List Ag) {s:List Ag},QF l→DX s→ ∀y,y∈l.foldl (fun o w=>BB wk w o) s↔y∈l∨y∈s∧ ∀w∈l,w.ab≠y.ab
 | [],s,_,_,y=>by simp
 |x::l,s,hl,hs,y=>by
  unfold QF at hl;rw [List.pairwise_cons]at hl;rw [List.foldl_cons,XQ l hl.2 (Qc hs),Qk hs];constructor
  ·rintro(h|⟨h1|h1,h2⟩)
   ·exact .inl (by simp [h])
   ·exact .inl (by simp [h1])
   ·exact .inr ⟨h1.1,fun w hw=>by
     rcases Ae.1 hw with rfl|hw
     ·exact fun e=>h1.2 e.symm
     ·exact h2 w hw⟩
  ·rintro(h|⟨h1,h2⟩)
   ·rcases Ae.1 h with rfl|h
    ·exact .inr ⟨.inl rfl,fun w hw e=>hl.1 w hw e.symm⟩
    ·exact .inl h
   ·exact .inr ⟨.inr ⟨h1,fun e=>h2 x (by simp) e.symm⟩,fun w hw=>h2 w (by simp [hw])⟩
theorem uN {l:List Ag} (h:DX l):QF l:=List.Pairwise.imp (fun h=>FB h) h
theorem dX: ∀(l:List Ag) {s:List Ag},DX s→DX (l.foldl (fun o w=>BB wk w o) s)
 | [],_,h=>h
 |_::l,_,h=>dX l (Qc h)
theorem yX {t:A7} {m n:Ai} {c d:Int} {r q:Dq} (hg:Eu t=true) (hm:Fk m 1=true) (hn:Fk n 1=true) (h:Dv t r=true) (k:Dv t q=true) (A4:m≠n):Ej t m c r≠Ej t n d q:=by intro e;have h1:=Ny (c:=c) hg hm h;rw [e,Ny hg hn k]at h1;simp only [List.cons.injEq]at h1;have h2:=h1.1;unfold head at h2;exact A4 (List.append_cancel_left h2).symm
theorem EV.apart {t:A7} {a:DU} (A:EV t a):QF (D8 t a):=by
 unfold QF D8;rw [List.pairwise_append];refine⟨?_, ?_,fun w hw z hz e=> ?_⟩
 ·unfold G2;split
  ·exact List.pairwise_singleton _ _
  ·split<;>exact List.pairwise_singleton _ _
 ·rw [List.pairwise_flatMap];refine⟨fun y hy=> ?_, ?_⟩
  ·unfold Hr;rw [List.pairwise_append];refine⟨?_, ?_,fun w hw z hz e=> ?_⟩
   ·split
    ·exact List.pairwise_singleton _ _
    ·exact List.Pairwise.nil
   ·split
    ·exact List.pairwise_singleton _ _
    ·exact List.Pairwise.nil
   ·split at hw
    ·rename_i h;rw [List.mem_singleton]at hw;split at hz
     ·rw [List.mem_singleton]at hz;rw [hw,hz]at e;exact h.2.1 e
     ·simp at hz
    ·simp at hw
  ·refine List.Pairwise.imp_of_mem (fun{y z} hy hz nS w hw u hu e=> ?_) (fN A.tab);obtain⟨r,h1,h2,_⟩:=A.ch (n:= []) hy hw;obtain⟨q,k1,k2,_⟩:=A.ch (n:= []) hz hu;rw [h2,k2]at e;exact yX A.tab (Jm A.tab hy).1 (Jm A.tab hz).1 h1 k1 (FB nS) e
 ·obtain⟨r,h1,h2⟩:=A.ew hw;obtain⟨y,hy,hz⟩:=List.mem_flatMap.1 hz;obtain⟨q,k1,k2,_⟩:=A.ch (n:= []) hy hz;rw [h2,k2]at e;exact Xf A.tab (Jm A.tab hy).1 h1 k1 e
theorem EV.behind {t:A7} {a:DU} (A:EV t a) {st:List Ag} (hr:DX st):Yx t a st (TV st ((D8 t a).foldl (fun o w=>BB wk w o) [])):=by
 have hw:DX ((D8 t a).foldl (fun o w=>BB wk w o) []):=dX _ List.Pairwise.nil;have hm: ∀y,y∈(D8 t a).foldl (fun o w=>BB wk w o) []↔y∈D8 t a:=fun y=>by rw [XQ _ A.apart List.Pairwise.nil];simp
 intro y;unfold TV;rw [List.mem_filter,XQ _ (uN hw) hr,hm];constructor
 ·rintro⟨h|⟨h1,h2⟩,h3⟩
  ·exact⟨by simpa using h3, .inl h⟩
  ·exact⟨by simpa using h3, .inr ⟨h1,fun w hw=>h2 w ((hm w).2 hw)⟩⟩
 ·rintro⟨h3,h|⟨h1,h2⟩⟩
  ·exact⟨.inl h,by simpa using h3⟩
  ·exact⟨.inr ⟨h1,fun w hw=>h2 w ((hm w).1 hw)⟩,by simpa using h3⟩
def H8 (o:Ap):Prop:=o.ab.length≤2000000∧o.ak.length≤2000000
def Fz (o:Ap):Bool:=Dm o.ae 1 7&&(Cc o.ab&&(EO o.ak&&(((o.ae==2||o.ae==7)||o.ak== [])&&(Dm o.cf (-9999) 9999&&((o.ae==4||o.ae==5)||o.cf==0)))))
theorem wI {o:Ap} (h:Fz o=true):Fq o:=by unfold Fz at h;simp only [Ac]at h;have:=GU.1 h.2.2.2.2.1;exact⟨h.2.1,h.2.2.1,by omega,by omega⟩
theorem zwh {o:Ap} (h:H8 o):SS o=some (Fz o):=by unfold SS WI S2 Fz;rw [Tz,Ab,YF h.1,Ab,iY h.2,Ab,Tz];simp only [Ab];cases Dm o.ae 1 7<;>cases Cc o.ab<;>cases EO o.ak<;>cases(o.ae==2||o.ae==7)<;>cases(o.ak== [])<;>cases Dm o.cf (-9999) 9999<;>rfl
theorem zxT {o:Ap} (h:H8 o):SY o=some (Fz o):=by
 have e0:EO ([]:Ai)=true:=by decide
 have b0:Dm 0 (-9999) 9999=true:=by decide
 unfold SY;rw [Ys h.1,Ab];unfold Fz;cases hk:Cc o.ab with
 |false=>simp
 |true=>
  rw [if_neg (by simp)];have hj: ∀b,(b=true↔(o.ae=2∨o.ae=7))→SM o b=some (Fz o):=by
   intro b hb;unfold SM;rw [YD h.2,TZ];simp only [Ab];cases b with
   |true=>
    have:=hb.1 rfl;have h1:Dm o.ae 1 7=true:=GU.2 (by omega);have h2:(o.ae==2||o.ae==7)=true:=by simpa using this
    have h3:(o.ae==4||o.ae==5)=false:=by simp;omega
    rw [if_pos rfl];unfold Fz;rw [h1,h2,h3,hk];by_cases hB:o.cf=0
    ·rw [hB,b0];simp
    ·have:(o.cf==0)=false:=by simpa using hB
     rw [this];simp
   |false=>
    have BC: ¬(o.ae=2∨o.ae=7):=fun x=>by simpa using hb.2 x
    rw [if_neg (by simp)];unfold Fz;have h2:(o.ae==2||o.ae==7)=false:=by simp;omega
    rw [h2,hk];by_cases hv:o.ak= []
    ·rw [hv,e0];by_cases k4:o.ae=4
     ·rw [k4];simp [show Dm 4 1 7=true by decide]
     ·by_cases k5:o.ae=5
      ·rw [k5];simp [show Dm 5 1 7=true by decide]
      ·have h3:(o.ae==4||o.ae==5)=false:=by simp;omega
       have q4:(o.ae==4)=false:=by simpa using k4
       have q5:(o.ae==5)=false:=by simpa using k5
       rw [q4,q5];simp only [A9,if_false];by_cases hB:o.cf=0
       ·rw [hB,b0];have:(((o.ae==1)||(o.ae==3))||(o.ae==6))=Dm o.ae 1 7:=by
         rw [Bool.eq_iff_iff];simp only [Bool.or_eq_true,beq_iff_eq,GU];omega
        rw [this];simp
       ·have:(o.cf==0)=false:=by simpa using hB
        rw [this];simp
    ·have Pv:(o.ak== [])=false:=by simpa using hv
     rw [Pv];simp<;>(split<;>(try split)<;>simp_all)
  by_cases k2:o.ae=2
  ·rw [if_pos (by simpa using k2),hj _ (by simp [k2])];unfold Fz;rw [hk]
  ·rw [if_neg (by simpa using k2),hj _ (by simp [k2])];unfold Fz;rw [hk]
def Fl (l:List Ap):Bool:=decide ((l.length:Int)≤8)&&l.all Fz
def F2 (l:List Ap):Prop:=l.length≤2000000∧ ∀o∈l,H8 o
theorem Kv {l:List Ap} (h:Fl l=true):l.length≤8∧ ∀o∈l,Fq o:=by unfold Fl at h;rw [Ac,decide_eq_true_eq,AN]at h;exact⟨by omega,fun o ho=>wI (h.2 o ho)⟩
theorem P2 {l:List Ap} (h:F2 l):LY l=some (Fl l):=by
 have e1:GO l (fun y0_=>Sf y0_)=some (l.any fun o=> !Fz o):=TR _ (fun o ho=>by unfold Sf;rw [zwh (h.2 o ho)];rfl) (by have:=h.1;omega)
 unfold LY Fl;by_cases hl:(l.length:Int)≤8
 ·rw [if_pos (by simpa using hl),e1,Ab,←List.not_all_eq_any_not];simp [hl]
 ·rw [if_neg (by simpa using hl)];simp [hl]
theorem S9 {l:List Ap} (h:F2 l):LU l=some (Fl l):=by
 have hn:=h.1;unfold LU;rw [IB (xs:=l) (body:=fun s:Int=>Ng l s) Fz false (WD l) (fun i hi=>by
  show Ng l i=_;unfold Ng;rw [if_pos (by simpa using hi),BA hi,Ab,zxT (h.2 _ (List.getElem_mem hi)),Ab,CZ hi (by omega)];cases Fz l[i]<;>rfl) (by
  show Ng l l.length=_;unfold Ng;rw [if_neg (by simp)])]
 unfold WD Fl;cases l.all Fz<;>simp
def putV (a b:List Ag):List Ag × Bool:=if GR a=true∧Iz b=true∧(TV a b).length≤24 then(TV a b,true)else([],false)
def BT {α:Type} (o:Option α) (Q:α→Prop):Prop:= ∃x,o=some x∧Q x
section
variable {α β σ:Type} {Q:β→Prop}
theorem BT.bind {o:Option α} {P:α→Prop} {f:α→Option β} (h:BT o P) (hf: ∀x,P x→BT (f x) Q):BT (o.bind f) Q:=by obtain⟨x,rfl,hx⟩:=h;exact hf x hx
theorem BT.ret {x:β} (h:Q x):BT (some x) Q:=⟨x,rfl,h⟩
theorem BT.ite {b:Bool} {A B:Option β} (ha:b=true→BT A Q) (hb:b=false→BT B Q):BT (if b=true then A else B) Q:=by
 cases b with
 |true=>simpa using ha rfl
 |false=>simpa using hb rfl
theorem BT.req {p:Prop} [Decidable p] {k:Option β} (hp:p) (hk:BT k Q):BT (req p k) Q:=by rw [Cp hp];exact hk
theorem BT.mono {o:Option β} {P:β→Prop} (h:BT o P) (lI: ∀x,P x→Q x):BT o Q:=by obtain⟨x,hx,h⟩:=h;exact⟨x,hx,lI x h⟩
theorem BT.getI {xs:List β} {i:Int} (h0:0≤i) (h:i<xs.length) (hq: ∀x,x∈xs→Q x):BT (getI xs i) Q:=by obtain⟨x,h1,h2,_⟩:=TK h0 h;exact⟨x,h1,hq x h2⟩
theorem S5 {body:σ→Option (σ ⊕ Option β)} (I:Nat→σ→Prop) (h: ∀n s,I n s→BT (body s) fun o=>match o with| .inl s'=> ∃m,m<n∧I m s'| .inr q=>BT q Q): ∀{n:Nat} {s:σ},I n s→BT (AL body s) Q:=by
 intro n
 induction n using Nat.strongRecOn with
 |_ n ih=>
  intro s hI;obtain⟨o,ho,h2⟩:=h n s hI;rw [IC,ho]
  match o,h2 with
  | .inl s',⟨m,hm,lG⟩=>exact ih m hm lG
  | .inr q,hq=>exact hq
end
structure ET where
 lr:List Int→Prop
 mo: ∀l,lr l→ ∀b∈l,0≤b∧b≤255
instance codeBytes:Inhabited ET:=⟨⟨fun l=> ∀b∈l,0≤b∧b≤255,fun _ h=>h⟩⟩
def B7 [Inhabited ET] (c:AO) (k:Int):Prop:=(default:ET).lr c.ao∧0≤c.cw∧c.cw≤k
theorem B7.up [Inhabited ET] {c:AO} {i j:Int} (h:B7 c i) (I5:i≤j):B7 c j:=⟨h.1,h.2.1,by have:=h.2.2;omega⟩
theorem B7.start [Inhabited ET] {code:List Int} (h:(default:ET).lr code):B7 ⟨code,0,0⟩ 0:=⟨h,by simp,by simp⟩
theorem jC (a:Int):0≤IntKind.i64.wrap (IntKind.u64.wrap ((BitVec.ofInt (IntKind.bits .u64) a&&&BitVec.ofInt (IntKind.bits .u64) 255).toNat:Int))∧IntKind.i64.wrap (IntKind.u64.wrap ((BitVec.ofInt (IntKind.bits .u64) a&&&BitVec.ofInt (IntKind.bits .u64) 255).toNat:Int))≤255:=by
 have h:(BitVec.ofInt (IntKind.bits .u64) a&&&BitVec.ofInt (IntKind.bits .u64) 255).toNat≤255:=by rw [BitVec.toNat_and];exact Nat.le_trans Nat.and_le_right (by decide)
 generalize (BitVec.ofInt (IntKind.bits .u64) a&&&BitVec.ofInt (IntKind.bits .u64) 255).toNat=m at h ⊢;have e:IntKind.u64.wrap (m:Int)=m:=by simp [IntKind.wrap,IntKind.bits,IntKind.signed];omega
 rw [e,B3 (by omega) (by omega)];omega
theorem iJ [Inhabited ET] {c:AO} {k:Int} (h:B7 c k) (hk:k≤4611686018427387904):BT (PG c) fun p=>(0≤p.1∧p.1≤255)∧B7 p.2 (k+1):=by
 obtain⟨hb,h0,h1⟩:=h;have w:IntKind.i64.wrap (c.cw+1)=c.cw+1:=B3 (by omega) (by omega);unfold PG;refine .ite (fun Au=> ?_) fun Au=> ?_
 ·simp only [decide_eq_true_eq]at Au;refine BT.bind (P:=fun y=>0≤y∧y≤255) (.getI h0 Au ((default:ET).mo _ hb)) fun y hy=> ?_;have wy:IntKind.i64.wrap y=y:=B3 (by omega) (by omega);refine .ite (fun _=> .ret ⟨by dsimp only;rw [wy];exact hy,hb,by dsimp only;omega,by dsimp only;omega⟩) fun _=> .ret ⟨jC _,hb,by dsimp only;omega,by dsimp only;omega⟩
 ·refine .ite (fun _=> .ret ⟨by simp,hb,by dsimp only;omega,by dsimp only;omega⟩) fun _=> .ret ⟨jC _,hb,by dsimp only;omega,by dsimp only;omega⟩
theorem Jx [Inhabited ET] {c:AO} {k:Int} (n:Int) (h:B7 c k) (hk:k≤4611686018427387000):BT (GP c n) fun p=>(0≤p.1∧(1≤n→p.1<n)∧p.1≤65535)∧B7 p.2 (k+2):=by
 have tm: ∀x:Int,0≤x→1<n→0≤x.tmod n∧x.tmod n<n∧x.tmod n≤x:=fun x hx hn=>by
  rw [Int.tmod_eq_emod_of_nonneg hx];exact⟨Int.emod_nonneg _ (by omega),Int.emod_lt_of_pos _ (by omega),by have:=Int.emod_add_mul_ediv x n;have h2:0≤n*(x/n):=Int.mul_nonneg (by omega) (Int.ediv_nonneg hx (by omega));omega⟩
 unfold GP;refine .ite (fun hn=> .ret ⟨⟨by simp,fun h1=>by dsimp only;omega,by simp⟩,h.up (by omega)⟩) fun hn=> ?_;simp only [decide_eq_false_iff_not]at hn;refine(iJ h (by omega)).bind fun p ⟨hp,hc⟩=> ?_;refine .ite (fun _=> ?_) fun _=> ?_
 ·refine(iJ hc (by omega)).bind fun q ⟨hq,hd⟩=> .req (by omega) (.ret ?_);have w1:IntKind.i64.wrap (p.1*256)=p.1*256:=B3 (by omega) (by omega);have w2:IntKind.i64.wrap (p.1*256+q.1)=p.1*256+q.1:=B3 (by omega) (by omega);have:=tm (p.1*256+q.1) (by omega) (by omega);dsimp only;rw [w1,w2];exact⟨⟨this.1,fun _=>this.2.1,by omega⟩,hd.up (by omega)⟩
 ·have:=tm p.1 hp.1 (by omega);exact .req (by omega) (.ret ⟨⟨this.1,fun _=>this.2.1,by dsimp only;omega⟩,hc.up (by omega)⟩)
theorem Tx [Inhabited ET] {c:AO} {k:Int} (l:List Int) (hl:l≠ []) (h:B7 c k) (hk:k≤4611686018427387000):BT (LI c l) fun p=>p.1∈l∧B7 p.2 (k+2):=by unfold LI;have HN:0<l.length:=List.length_pos_iff.2 hl;refine(Jx l.length h hk).bind fun p ⟨hp,hc⟩=> ?_;exact BT.bind (P:=fun y=>y∈l) (.getI hp.1 (hp.2.1 (by omega)) fun x hx=>hx) fun y hy=> .ret ⟨hy,hc⟩
theorem NP [Inhabited ET] {c:AO} {k:Int} (n:Int) (h:B7 c k) (hk:k≤4611686018427387000):BT (Jf c n) fun p=>B7 p.2 (k+2):=by unfold Jf;exact(Jx n h hk).bind fun p ⟨_,hc⟩=> .ret hc
structure Mj (l:List Ai):Prop where
 len:l.length≤10
 each: ∀s∈l,s.length≤10
theorem Mj.small {l:List Ai} (h:Mj l):Small l:=⟨by have:=h.len;omega,by
 have h1:=eK h.each;have h2:=h.len;have h3:10*l.length≤100:=by omega
 omega⟩
theorem YH [Inhabited ET] {c:AO} {k:Int} (l:List Ai) (hl:l≠ []) (h:B7 c k) (hk:k≤4611686018427387000):BT (M3 c l) fun p=>p.1∈l∧B7 p.2 (k+2):=by unfold M3;have HN:0<l.length:=List.length_pos_iff.2 hl;refine(Jx l.length h hk).bind fun p ⟨hp,hc⟩=> ?_;exact BT.bind (P:=fun y=>y∈l) (.getI hp.1 (hp.2.1 (by omega)) fun x hx=>hx) fun y hy=> .ret ⟨hy,hc⟩
def LH:List Ai:= [[105], [106], [109]]
structure kC (w:Int) (x:Cq):Prop where
 c1:1≤x.da
 c2:x.da≤w
 s0:0≤x.b8
 s3:x.b8≤3
structure TI (w:Int) (q:Nat) (l:List Cq):Prop where
 x: ∀x∈l,kC w x
 nm: ∀x∈l,x.aw∈LH.take q
 up:l.Pairwise fun a b=>Op.bytesLess a.aw b.aw=true
 len:l.length≤q
theorem zwk: ∀{q:Nat},q<3→ ∀a∈LH.take q,Op.bytesLess a ((LH[q]?).getD [])=true:=by
 intro q hq;have:q=0∨q=1∨q=2:=by omega
 rcases this with rfl|rfl|rfl<;>decide
theorem iE {q:Nat} {a:Ai} (h:a∈LH.take q):a∈LH.take (q+1):=by rw [List.take_add_one];exact Af.2 (.inl h)
theorem TI.add {w:Int} {q:Nat} {l:List Cq} {x:Cq} (h:TI w q l) (hq:q<3) (hx:kC w x) (hn:x.aw=(LH[q]?).getD []):TI w (q+1) (l++ [x]):=by
 refine⟨fun y hy=> ?_,fun y hy=> ?_, ?_, ?_⟩
 ·rcases Af.1 hy with hy|hy
  ·exact h.x y hy
  ·rw [List.mem_singleton.1 hy];exact hx
 ·rcases Af.1 hy with hy|hy
  ·exact iE (h.nm y hy)
  ·rw [List.mem_singleton.1 hy,hn,List.take_add_one];refine Af.2 (.inr ?_);have:q<LH.length:=hq;rw [List.getElem?_eq_getElem this];simp
 ·refine List.pairwise_append.2 ⟨h.up,List.pairwise_singleton _ _,fun a ha b hb=> ?_⟩;rw [List.mem_singleton.1 hb,hn];exact zwk hq _ (h.nm a ha)
 ·have:=h.len;rw [AB,Bk];omega
theorem TI.more {w:Int} {q:Nat} {l:List Cq} (h:TI w q l):TI w (q+1) l:=⟨h.x,fun y hy=>iE (h.nm y hy),h.up,by have:=h.len;omega⟩
theorem Mj.set {l:List Ai} {i:Nat} {s:Ai} (h:Mj l) (hs:s.length≤10):Mj (l.set i s):=⟨by rw [List.length_set];exact h.len,fun x hx=>by
 rcases List.mem_or_eq_of_mem_set hx with hx|rfl
 ·exact h.each x hx
 ·exact hs⟩
theorem Fo.mono {n m:Nat} {l:List Ag} (h:Fo n l) (hm:n≤m):Fo m l:=⟨h.c6,by have:=h.len;omega,h.dk⟩
theorem zwK [Inhabited ET] {c:AO} {k:Int} (h:B7 c k) (hk:k≤4611686018427387000):BT (R4 c) fun p=>Cc p.1=true∧B7 p.2 (k+2):=by unfold R4;refine(YH _ (by simp) h (by omega)).bind fun p ⟨hp,hc⟩=> .ret ⟨?_,hc⟩;simp only [Ae,List.not_mem_nil,or_false]at hp;dsimp only;rcases hp with e|e|e|e|e|e|e|e<;>rw [e]<;>decide
theorem jL [Inhabited ET] {c:AO} {k:Int} (h:B7 c k) (hk:k≤4611686018427387000):BT (PF c) fun p=>EO p.1=true∧B7 p.2 (k+2):=by unfold PF;refine(YH _ (by simp) h (by omega)).bind fun p ⟨hp,hc⟩=> .ret ⟨?_,hc⟩;simp only [Ae,List.not_mem_nil,or_false]at hp;dsimp only;rcases hp with e|e|e|e|e|e|e<;>rw [e]<;>decide
structure IN (n:Nat) (l:List Ag):Prop where
 ok:Fo n l
 live: ∀w∈l,w.bd=false
theorem IN.len {n:Nat} {l:List Ag} (h:IN n l):l.length≤n:=h.ok.len
theorem IN.c6 {n:Nat} {l:List Ag} (h:IN n l):DX l:=h.ok.c6
theorem IN.dk {n:Nat} {l:List Ag} (h:IN n l): ∀w∈l,Dp w=true:=h.ok.dk
theorem IN.mono {n m:Nat} {l:List Ag} (h:IN n l) (hm:n≤m):IN m l:=⟨h.ok.mono hm,h.live⟩
theorem dG {w y:Ag}: ∀{l:List Ag},y∈BB wk w l→y=w∨y∈l
 | [],h=> .inl (by simpa [BB]using h)
 |z::l,h=>by
  rw [BB]at h;split at h
  ·rcases Ae.1 h with h|h
   ·exact .inl h
   ·exact .inr h
  ·split at h
   ·rcases Ae.1 h with h|h
    ·exact .inl h
    ·exact .inr (by simp [h])
   ·rcases Ae.1 h with h|h
    ·exact .inr (by simp [h])
    ·rcases dG h with h|h
     ·exact .inl h
     ·exact .inr (by simp [h])
structure QQ (l:List Ag):Prop where
 len:l.length≤100
 each: ∀w∈l,YL w
theorem QQ.small {l:List Ag} (h:QQ l):JB l:=⟨by have:=h.len;omega,fun w hw=>by have:=h.each w hw;unfold YL at this;omega⟩
theorem bU (w:Ag): ∀(l:List Ag),(BB wk w l).length≤l.length+1
 | []=>by simp [BB]
 |z::l=>by
  rw [BB];split
  ·simp
  ·split
   ·simp
   ·have:=bU w l;simp only [AA];omega
theorem QQ.put {l:List Ag} {w:Ag} (h:QQ l) (hl:l.length≤99) (hw:YL w):QQ (BB wk w l):=⟨by have:=bU w l;omega,fun y hy=>by
 rcases dG hy with rfl|hy
 ·exact hw
 ·exact h.each y hy⟩
structure jK (a:DU):Prop where
 old:Mj a.c7.bm
 new:Mj a.cu.bm
theorem jK.small {a:DU} (h:jK a):zwP a:=⟨h.old.small,h.new.small⟩
theorem cZ {kd b:Int} {k v:Ai} (hk:Cc k=true) (hv:EO v=true):H8 ⟨kd,k,v,b⟩:=by have h1:=eI hk;have h2:=Qd hv;exact⟨by show k.length≤2000000;omega,by show v.length≤2000000;omega⟩
theorem P4 {kd b:Int} {k:Ai} (hk:Cc k=true):H8 ⟨kd,k, [],b⟩:=cZ hk (by decide)
theorem jF [Inhabited ET] {c:AO} {k:Int} (h:B7 c k) (hk:k≤4611686018427387000-100):BT (PK c) fun p=>(H8 p.1∧Cc p.1.ab=true)∧B7 p.2 (k+6):=by
 have hj: ∀(v1:Int × AO) (v2:Ai × AO) (b:Bool),Cc v2.1=true→B7 v2.2 (k+4)→BT (R5 v1 v2 b) fun p=>(H8 p.1∧Cc p.1.ab=true)∧B7 p.2 (k+6):=by
  intro v1 v2 b hg hc;unfold R5;refine .ite (fun _=> ?_) fun _=> ?_
  ·refine(jL hc (by omega)).bind fun r ⟨hr,hd⟩=> .ret ⟨⟨cZ hg hr,hg⟩,hd.up (by omega)⟩
  ·refine .ite (fun _=> .ite (fun _=> ?_) fun _=> .ret ⟨⟨P4 hg,hg⟩,hc.up (by omega)⟩) fun _=> .ite (fun _=> ?_) fun _=> .ret ⟨⟨P4 hg,hg⟩,hc.up (by omega)⟩
   ·exact(Tx _ (by simp) hc (by omega)).bind fun r ⟨_,hd⟩=> .ret ⟨⟨P4 hg,hg⟩,hd.up (by omega)⟩
   ·exact(Tx _ (by simp) hc (by omega)).bind fun r ⟨_,hd⟩=> .ret ⟨⟨P4 hg,hg⟩,hd.up (by omega)⟩
 unfold PK;refine(Jx 7 h (by omega)).bind fun p ⟨hp,hc⟩=>(zwK hc (by omega)).bind fun q ⟨hq,hd⟩=> ?_;exact .ite (fun _=>hj _ _ _ hq (hd.up (by omega))) fun _=>hj _ _ _ hq (hd.up (by omega))
def GA (n:Nat) (l:List Ap):Prop:=l.length≤n∧ ∀o∈l,H8 o
theorem GA.add {n:Nat} {l:List Ap} {o:Ap} (h:GA n l) (ho:H8 o):GA (n+1) (l++ [o]):=by
 refine⟨by have:=h.1;rw [AB,Bk];omega,fun x hx=> ?_⟩;rcases Af.1 hx with hx|hx
 ·exact h.2 x hx
 ·rw [List.mem_singleton.1 hx];exact ho
theorem GA.small {n:Nat} {l:List Ap} (h:GA n l) (hn:n≤2000000):F2 l:=⟨by have:=h.1;omega,h.2⟩
theorem GA.set {n:Nat} {l:List Ap} {i:Nat} {o:Ap} (h:GA n l) (ho:H8 o):GA n (l.set i o):=by
 refine⟨by rw [List.length_set];exact h.1,fun x hx=> ?_⟩;rcases List.mem_or_eq_of_mem_set hx with hx|hx
 ·exact h.2 x hx
 ·rw [hx];exact ho
theorem T9 {l:List Ap} {o:Ap} (h:l.length≤1000):(((l).length:Int)+(([o]:List Ap).length:Int))*48≤140737488355328∧((l).length:Int)+(([o]:List Ap).length:Int)≤140737488355328:=by rw [Bk];omega
theorem zw1 [Inhabited ET] {c:AO} {k:Int} (h:B7 c k) (hk:k≤4611686018427380000):BT (R3 c) fun p=>(GA 4 p.1∧1≤p.1.length)∧B7 p.2 (k+100):=by
 unfold R3;refine(Jx 4 h (by omega)).bind fun p ⟨hp,hc⟩=> ?_;have p2:=hp.2.1 (by omega);obtain⟨m,hm⟩:=Int.eq_ofNat_of_zero_le hp.1;have w0:IntKind.i64.wrap (1+p.1)=((m+1:Nat):Int):=by rw [B3 (by omega) (by omega)];omega
 rw [w0];refine S5 (fun j s=> ∃q:Nat,q+j=m+1∧s.2.1=(j:Int)∧GA q s.1∧q≤s.1.length∧B7 ⟨s.2.2.1,s.2.2.2.1,s.2.2.2.2⟩ (k+2+20*q)) (fun j s hI=> ?_) (n:=m+1) ⟨0,by omega,rfl,⟨by simp,by simp⟩,by simp,by simpa using hc⟩;obtain⟨l,s1,a,b,e⟩:=s;obtain⟨q,i0,i1,i2,i4,i3⟩:=hI;dsimp only at i1 i2 i3 i4 ⊢;subst i1;have hlen:=i2.1;unfold aC;refine .ite (fun Au=> ?_) fun J0=> ?_
 ·simp only [decide_eq_true_eq]at Au;have w1:IntKind.i64.wrap ((j:Int)-1)=((j-1:Nat):Int):=by rw [B3 (by omega) (by omega)];omega
  have fin: ∀(o:Ap) (d:AO),H8 o→B7 d (k+2+20*q+20)→ ∃jj,jj<j∧ ∃q:Nat,q+jj=m+1∧(IntKind.i64.wrap ((j:Int)-1))=(jj:Int)∧GA q (l++ [o])∧q≤(l++ [o]).length∧B7 ⟨d.ao,d.cw,d.au⟩ (k+2+20*q):=by intro o d ho hd;refine⟨j-1,by omega,q+1,by omega,w1,i2.add ho, ?_,hd.up (by omega)⟩;rw [AB,Bk];omega
  refine(jF i3 (by omega)).bind fun v ⟨⟨hv,nM⟩,hd⟩=> .ite (fun _=>(NP 3 hd (by omega)).bind fun w hw=> .ite (fun _=> ?_) fun _=> .req (T9 (by omega)) (.ret (fin v.1 w.2 hv (hw.up (by omega))))) fun _=> .ite (fun hf=>by cases hf) fun _=> .req (T9 (by omega)) (.ret (fin v.1 v.2 hv (hd.up (by omega))));exact(Jx 5 hw (by omega)).bind fun x ⟨_,hx⟩=> .req (T9 (by omega)) (.ret (fin _ x.2 (P4 nM) (hx.up (by omega))))
 ·simp only [decide_eq_false_iff_not]at J0;exact .ret (.ret ⟨⟨⟨by dsimp only;omega,i2.2⟩,by dsimp only;omega⟩,i3.up (by omega)⟩)
theorem XO [Inhabited ET] {c:AO} {k:Int} (h:B7 c k) (hk:k≤4611686018427370000):BT (MT c) fun p=>GA 9 p.1∧B7 p.2 (k+400):=by
 unfold MT;refine(zw1 h (by omega)).bind fun v ⟨⟨hv,h1⟩,hc⟩=>(Jx _ hc (by omega)).bind fun p ⟨hp,hd⟩=>(Jx 25 hd (by omega)).bind fun r ⟨_,he⟩=> ?_;have p2:=hp.2.1 (by omega);obtain⟨x,ex,V0,_⟩:=TK hp.1 p2;have hx:=hv.2 x V0;have LC:GA 9 v.1:=⟨by have:=hv.1;omega,hv.2⟩
 refine .ite (fun _=> ?_) fun _=> .ite (fun _=> ?_) fun _=> .ite (fun _=> ?_) fun _=> .ite (fun _=> ?_) fun _=> .ret ⟨LC,he.up (by omega)⟩
 ·refine(Tx _ (by simp) he (by omega)).bind fun y ⟨_,hf⟩=> ?_;rw [ex,Ab];exact .ret ⟨LC.set hx,hf.up (by omega)⟩
 ·refine(Tx _ (by simp) he (by omega)).bind fun y ⟨_,hf⟩=> ?_;rw [ex,Ab];exact .ret ⟨LC.set hx,hf.up (by omega)⟩
 ·rw [ex,Ab];exact .ret ⟨LC.set ⟨by simp,hx.2⟩,he.up (by omega)⟩
 ·refine S5 (fun j s=> ∃q:Nat,q+j=20∧q≤s.2.2.2.length∧GA 9 s.2.2.2∧B7 ⟨s.1,s.2.1,s.2.2.1⟩ (k+104+10*q)) (fun j s hI=> ?_) (n:=20) ⟨0,by omega,by simp,LC,he.up (by omega)⟩;obtain⟨a,b,e,l⟩:=s;obtain⟨q,i0,i1,i2,i3⟩:=hI;dsimp only at i1 i2 i3 ⊢;have hlen:=i2.1;unfold Z9;refine(Jx 2 i3 (by omega)).bind fun y ⟨hy,hf⟩=> .ite (fun Au=> ?_) fun _=> .ret (.ret ⟨i2,hf.up (by omega)⟩);have y2:=hy.2.1 (by omega);have y0:=hy.1;simp only [decide_eq_true_eq]at Au;rw [B3 (by omega) (by omega)]at Au;refine(jF hf (by omega)).bind fun z ⟨⟨hz,_⟩,hg⟩=> .req (T9 (by omega)) (.ret ⟨j-1,by omega,q+1,by omega, ?_,⟨?_,(i2.add hz).2⟩,hg.up (by omega)⟩)
  ·show q+1≤(l++ [z.1]).length;rw [AB,Bk];omega
  ·show(l++ [z.1]).length≤9;rw [AB,Bk];omega
def Gf (n:Nat) (l:List Ag):Prop:=l.length≤n∧ ∀w∈l,w.ab.length≤2000000∧w.ak.length≤2000000
theorem Gf.add {n:Nat} {l:List Ag} {o:Ag} (h:Gf n l) (ho:o.ab.length≤2000000∧o.ak.length≤2000000):Gf (n+1) (l++ [o]):=by
 refine⟨by have:=h.1;rw [AB,Bk];omega,fun x hx=> ?_⟩;rcases Af.1 hx with hx|hx
 ·exact h.2 x hx
 ·rw [List.mem_singleton.1 hx];exact ho
theorem Gf.set {n:Nat} {l:List Ag} {i:Nat} {o:Ag} (h:Gf n l) (ho:o.ab.length≤2000000∧o.ak.length≤2000000):Gf n (l.set i o):=by
 refine⟨by rw [List.length_set];exact h.1,fun x hx=> ?_⟩;rcases List.mem_or_eq_of_mem_set hx with hx|hx
 ·exact h.2 x hx
 ·rw [hx];exact ho
theorem Gf.small {n:Nat} {l:List Ag} (h:Gf n l) (hn:n≤2000000):JB l:=⟨by have:=h.1;omega,h.2⟩
theorem Gf.up {n m:Nat} {l:List Ag} (h:Gf n l) (hn:n≤m):Gf m l:=⟨by have:=h.1;omega,h.2⟩
theorem zxH {l:List Ag} {o:Ag} (h:l.length≤1000):(((l).length:Int)+(([o]:List Ag).length:Int))*40≤140737488355328∧((l).length:Int)+(([o]:List Ag).length:Int)≤140737488355328:=by rw [Bk];omega
theorem zT [Inhabited ET] {c:AO} {k:Int} (h:B7 c k) (hk:k≤4611686018427370000):BT (R8 c) fun p=>Gf 6 p.1∧B7 p.2 (k+100):=by
 unfold R8;refine S5 (fun j s=> ∃q:Nat,s.2.1=(q:Int)∧q+j=6∧Gf q s.1∧B7 ⟨s.2.2.1,s.2.2.2.1,s.2.2.2.2⟩ (k+10*q)) (fun j s hI=> ?_) (n:=6) ⟨0,rfl,by omega,⟨by simp,by simp⟩,by simpa using h⟩;obtain⟨l,s1,a,b,e⟩:=s;obtain⟨q,i1,i0,i2,i3⟩:=hI;dsimp only at i1 i2 i3 ⊢;subst i1;have hlen:=i2.1;unfold aB;refine .ite (fun Au=> ?_) fun J0=> ?_
 ·have hq:q<6:=by
   simp only [decide_eq_true_eq]at Au;have:(([([97]:Aa),([98]:Aa),([99]:Aa),([109]:Aa),([110]:Aa),([122]:Aa)].length:Int))=6:=rfl;omega
  have w1:IntKind.i64.wrap ((q:Int)+1)=((q+1:Nat):Int):=by rw [B3 (by omega) (by omega)];omega
  refine BT.bind (P:=fun y:Ai=>y.length≤10) (.getI (by omega) (by show(q:Int)<6;omega) (fun x hx=> ?_)) fun y hy=> ?_
  ·simp only [Ae,List.not_mem_nil,or_false]at hx;rcases hx with rfl|rfl|rfl|rfl|rfl|rfl<;>simp
  refine(NP 3 i3 (by omega)).bind fun u hu=> .ite (fun _=> ?_) fun _=> .ret ⟨j-1,by omega,q+1,w1,by omega,i2.up (by omega),hu.up (by omega)⟩;refine(YH _ (by simp) hu (by omega)).bind fun v ⟨hv,hd⟩=> .req (zxH (by omega)) (.ret ⟨j-1,by omega,q+1,w1,by omega,i2.add ⟨by show y.length≤2000000;omega, ?_⟩,hd.up (by omega)⟩);show v.1.length≤2000000;simp only [Ae,List.not_mem_nil,or_false]at hv;rcases hv with e|e|e|e|e|e<;>rw [e]<;>simp
 ·refine .ret ?_;unfold aE;have i6:Gf 6 l:=i2.up (by omega);refine .ite (fun HN=> ?_) fun _=> .ite (fun hf=>by cases hf) fun _=> .ret ⟨i6,i3.up (by omega)⟩;simp only [decide_eq_true_eq]at HN;refine(NP 30 i3 (by omega)).bind fun v hv=> .ite (fun _=> ?_) fun _=> .ret ⟨i6,hv.up (by omega)⟩;obtain⟨x,ex,V0,_⟩:=TK (xs:=l) (i:=0) (by omega) (by omega);rw [ex,Ab];exact .ret ⟨i6.set (i2.2 x V0),hv.up (by omega)⟩
def Hk (a b:Ai):Prop:=bl b a=false
theorem xW {a b c:Ai} (h1:Hk a b) (h2:Hk b c):Hk a c:=by
 unfold Hk at*;cases h:bl c a with
 |false=>rfl
 |true=>
  rcases TX a b with k|k|k
  ·have:=Gu h k;rw [h2]at this;cases this
  ·subst k;rw [h2]at h;cases h
  ·rw [h1]at k;cases k
def DY:List Ai→Ai→List Ai→List Ai
 | [],x,B=>x::B
 |a::Ar,x,B=>if bl x a=true then DY Ar x (a::B)else(a::Ar).reverse++x::B
theorem XM: ∀(Ar:List Ai) (x:Ai) (B:List Ai),(Ar.reverse++B).Pairwise Hk→(∀b∈B,bl x b=true)→(DY Ar x B).Pairwise Hk∧((∀y,y∈DY Ar x B↔y=x∨y∈Ar∨y∈B)∧(DY Ar x B).length=Ar.length+1+B.length)
 | [],x,B,h,hx=>by refine⟨List.pairwise_cons.2 ⟨fun b hb=>Kz (hx b hb),by simpa using h⟩,fun y=>by simp [DY],by simp [DY];omega⟩
 |a::Ar,x,B,h,hx=>by
  rw [DY];by_cases hb:bl x a=true
  ·rw [if_pos hb];obtain⟨p,q,r⟩:=XM Ar x (a::B) (by simpa using h) fun b hm=>by
    rcases Ae.1 hm with rfl|hm
    ·exact hb
    ·exact hx b hm
   refine⟨p,fun y=> ?_,by rw [r,AA,AA];omega⟩;rw [q];simp only [Ae];constructor
   ·rintro(k|k|k|k)
    ·exact .inl k
    ·exact .inr (.inl (.inr k))
    ·exact .inr (.inl (.inl k))
    ·exact .inr (.inr k)
   ·rintro(k|(k|k)|k)
    ·exact .inl k
    ·exact .inr (.inr (.inl k))
    ·exact .inr (.inl k)
    ·exact .inr (.inr (.inr k))
  ·rw [if_neg hb];rw [Bool.not_eq_true]at hb;rw [List.pairwise_append]at h;have hm: ∀y,y∈(a::Ar).reverse++x::B↔y=x∨y∈a::Ar∨y∈B:=fun y=>by
    rw [Af,List.mem_reverse,Ae (a:=y) (b:=x)];constructor
    ·rintro(k|k|k)
     ·exact .inr (.inl k)
     ·exact .inl k
     ·exact .inr (.inr k)
    ·rintro(k|k|k)
     ·exact .inr (.inl k)
     ·exact .inl k
     ·exact .inr (.inr k)
   refine⟨?_,hm,by simp;omega⟩;rw [List.pairwise_append];refine⟨h.1,List.pairwise_cons.2 ⟨fun b hm=>Kz (hx b hm),h.2.1⟩,fun u hu v hv=> ?_⟩;rcases Ae.1 hv with rfl|hv
   ·rw [List.reverse_cons,List.pairwise_append]at h;rw [List.reverse_cons]at hu;rcases Af.1 hu with hu|hu
    ·exact xW (h.1.2.2 u hu a (by simp)) hb
    ·rw [List.mem_singleton.1 hu];exact hb
   ·exact h.2.2 u hu v hv
theorem fV: ∀(Ar:List Ai) (x:Ai) (B C:List Ai),DY Ar x (B++C)=DY Ar x B++C
 | [],x,B,C=>rfl
 |a::Ar,x,B,C=>by
  rw [DY,DY];split
  ·exact fV Ar x (a::B) C
  ·simp
def KM (xs:List Ai):List Ai:=xs.foldl (fun S x=>DY S.reverse x []) []
theorem cI: ∀(xs S:List Ai),S.Pairwise Hk→(xs.foldl (fun S x=>DY S.reverse x []) S).Pairwise Hk∧((∀y,y∈xs.foldl (fun S x=>DY S.reverse x []) S↔y∈xs∨y∈S)∧(xs.foldl (fun S x=>DY S.reverse x []) S).length=xs.length+S.length)
 | [],S,h=>⟨h,by simp,by simp⟩
 |x::xs,S,h=>by
  obtain⟨p,q,r⟩:=XM S.reverse x [] (by simpa using h) (by simp);obtain⟨a,b,c⟩:=cI xs _ p;refine⟨a,fun y=> ?_,by rw [List.foldl_cons,c,r];simp;omega⟩;rw [List.foldl_cons,b,q];simp only [Ae,List.mem_reverse,List.not_mem_nil,or_false];constructor
  ·rintro(k|k|k)
   ·exact .inl (.inr k)
   ·exact .inl (.inl k)
   ·exact .inr k
  ·rintro((k|k)|k)
   ·exact .inr (.inl k)
   ·exact .inl k
   ·exact .inr (.inr k)
theorem zxm (a b:Ai):Fj a b=some (bl a b):=by unfold Fj Kq;simp
theorem fH: ∀(Ar:List Ai) (x:Ai) (B:List Ai) (v1:Int),Ar.length≤100→
  AL (fun s:Int × List Ai=>Kr 0 v1 s.1 s.2) ((Ar.length:Int),Ar.reverse++x::B)=PE v1 (DY Ar x B)
 | [],x,B,v1,_=>by refine Ez ?_;show Kr 0 v1 0 (x::B)=_;unfold Kr;rw [if_neg (by simp)];rfl
 |a::Ar,x,B,v1,hl=>by
  rw [AA]at hl;have h1:getI ((a::Ar).reverse++x::B) (((a::Ar).length:Nat):Int)=some x:=by rw [BA (by rw [AB,List.length_reverse,AA,AA];omega)];rw [List.getElem_append_right (by simp)]<;>simp
  have w1:IntKind.i64.wrap ((((a::Ar).length:Nat):Int)-1)=((Ar.length:Nat):Int):=by rw [AA,B3 (by omega) (by omega)];omega
  have h2:getI ((a::Ar).reverse++x::B) ((Ar.length:Nat):Int)=some a:=by rw [BA (by rw [AB,List.length_reverse,AA];omega)];simp only [List.reverse_cons,List.append_assoc,List.singleton_append];rw [List.getElem_append_right (by simp)]<;>simp
  have e:Kr 0 v1 (((a::Ar).length:Nat):Int) ((a::Ar).reverse++x::B)=if bl x a=true then some (.inl (((Ar.length:Nat):Int),Ar.reverse++x::(a::B)))else some (.inr (PE v1 ((a::Ar).reverse++x::B))):=by
   unfold Kr;rw [if_pos (by rw [decide_eq_true_eq,AA];omega),h1,Ab,w1,h2,Ab,zxm,Ab];cases hb:bl x a with
   |false=>rfl
   |true=>
    rw [if_pos rfl,if_pos rfl];have e1:((a::Ar).reverse++x::B).set ((((a::Ar).length:Nat):Int)).toNat a=Ar.reverse++a::a::B:=by rw [Int.toNat_natCast,AA,List.reverse_cons,List.append_assoc,List.singleton_append];rw [List.set_append_right _ _ (by simp)];simp
    rw [e1];have e2:getI (Ar.reverse++a::a::B) ((Ar.length:Nat):Int)=some a:=by rw [BA (by simp),List.getElem_append_right (by simp)]<;>simp
    rw [e2,Ab,Int.toNat_natCast,List.set_append_right _ _ (by simp)];simp
  rw [DY];by_cases hb:bl x a=true
  ·rw [if_pos hb]at e ⊢;rw [Fx (body:=fun s:Int × List Ai=>Kr 0 v1 s.1 s.2) e];exact fH Ar x (a::B) v1 (by omega)
  ·rw [if_neg hb]at e ⊢;exact Ez (body:=fun s:Int × List Ai=>Kr 0 v1 s.1 s.2) e
theorem z8 {xs:List Ai} (h:xs.length≤12):RR xs 0 (xs.length:Int)=some ((),KM xs):=by
 have key: ∀(R S:List Ai),S.length+R.length=xs.length→S.Pairwise Hk→AL (fun s:Int × List Ai=>Jg 0 (xs.length:Int) s.1 s.2) ((S.length:Int),S++R)=some ((),R.foldl (fun S x=>DY S.reverse x []) S):=by
  intro R
  induction R with
  |nil=>intro S hS _;rw [List.append_nil];refine Ez ?_;show Jg 0 (xs.length:Int) (S.length:Int) S=_;unfold Jg;rw [if_neg (by simp at hS ⊢;omega)];rfl
  |cons x R ih=>
   intro S hS hp;have Au:S.length<xs.length:=by simp at hS;omega
   obtain⟨p,q,r⟩:=XM S.reverse x [] (by simpa using hp) (by simp);have e:Jg 0 (xs.length:Int) (S.length:Int) (S++x::R)=some (.inl (((S.length+1:Nat):Int),DY S.reverse x []++R)):=by
    unfold Jg;rw [if_pos (by simp;omega)];have:=fH S.reverse x R (S.length:Int) (by simp;omega);rw [List.length_reverse,List.reverse_reverse]at this;rw [this];unfold PE;rw [CZ Au (by omega)];have:DY S.reverse x R=DY S.reverse x []++R:=by rw [←fV];rfl
    rw [this]
   rw [Fx (body:=fun s:Int × List Ai=>Jg 0 (xs.length:Int) s.1 s.2) e,List.foldl_cons];have hlen:(DY S.reverse x []).length=S.length+1:=by rw [r];simp
   have:=ih (DY S.reverse x []) (by rw [hlen];simp at hS;omega) p;rw [hlen]at this;exact this
 unfold RR KM;have w:IntKind.i64.wrap ((0:Int)+1)=1:=by decide
 rw [w];cases xs with
 |nil=>refine Ez ?_;show Jg 0 _ 1 []=_;unfold Jg;rw [if_neg (by simp)];rfl
 |cons x R=>have:=key R [x] (by simp;omega) (List.pairwise_singleton _ _);exact this
theorem zwd {xs:List Ai} (h:xs.length≤12):RW xs=some ((),KM xs):=by
 have hf:=gB;have wl: ∀a:Int,0≤a→a≤12→IntKind.i64.wrap (a-0)=a:=fun a h0 h1=>by rw [B3 (by omega) (by omega)];omega
 have e: ∀v,RV xs 0 (xs.length:Int) v=some ((),KM xs):=by
  intro v;unfold RV;obtain⟨n,hn⟩: ∃n,JJ=n+1:=⟨JJ-1,by omega⟩
  rw [hn,MV];refine Ez ?_;show Wf _ 0 xs true true (xs.length:Int) v=_;unfold Wf;rw [wl _ (by omega) (by omega),if_pos (by simp;omega),z8 h,Ab]
 unfold RW PS;rw [Ab,e,Ab]
abbrev G7 (l:List Ai):Prop:=Da (fun s:Ai=>s) l
theorem s9 {zs:List Ai} (h:zs.Pairwise Hk):G7 (Lib.compact zs)∧ ∀y,y∈Lib.compact zs↔y∈zs:=by
 have get: ∀j (hj:j<zs.length),(zs.toArray[j]!)=zs[j]:=fun j hj=>by rw [getElem!_pos _ j (by simpa using hj)];simp
 have le: ∀i j (hi:i<zs.length) (hj:j<zs.length),i≤j→Hk zs[i] zs[j]:=fun i j hi hj I5=>by
  rcases Nat.lt_or_ge i j with k|k
  ·exact(List.pairwise_iff_getElem.1 h) i j hi hj k
  ·have:i=j:=by omega
   subst this;exact Jk _
 unfold Lib.compact Lib.compactUpTo;constructor
 ·unfold G7 Da;rw [List.pairwise_map];have hp:(List.range zs.length).Pairwise (· < ·):=List.pairwise_lt_range;have:=List.Pairwise.filter (Lib.keeps zs.toArray) hp;refine List.Pairwise.imp_of_mem ?_ this;intro i j hi hj I5;have Lh:=(List.mem_filter.1 hj).2;have Ir:j<zs.length:=by simpa using(List.mem_filter.1 hj).1
  have A4:zs[j]'Ir≠zs[j-1]'(by omega):=by
   unfold Lib.keeps at Lh;simp only [decide_eq_true_eq]at Lh;rcases Lh with k|k
   ·omega
   ·rw [get j Ir,get (j-1) (by omega)]at k;exact k
  rw [get i (by omega),get j Ir];have h1:=le i (j-1) (by omega) (by omega) (by omega);have h2:=le (j-1) j (by omega) Ir (by omega);have h3:bl (zs[j-1]'(by omega)) (zs[j]'Ir)=true:=L4 h2 A4;show bl (zs[i]'(by omega)) (zs[j]'Ir)=true;rcases TX (zs[i]'(by omega)) (zs[j-1]'(by omega))with k|k|k
  ·exact Gu k h3
  ·rw [k];exact h3
  ·unfold Hk at h1;rw [h1]at k;cases k
 ·intro y;constructor
  ·intro hy;exact cE zs y hy
  ·intro hy;obtain⟨i,hi,rfl⟩:=List.getElem_of_mem hy
   induction i using Nat.strongRecOn with
   |_ i ih=>
    by_cases hk:Lib.keeps zs.toArray i=true
    ·exact List.mem_map.2 ⟨i,List.mem_filter.2 ⟨by simpa using hi,hk⟩,get i hi⟩
    ·unfold Lib.keeps at hk;simp only [decide_eq_true_eq,not_or,Classical.not_not]at hk;have e:zs[i]=zs[i-1]'(by omega):=by
      have:=hk.2;rw [get i hi,get (i-1) (by omega)]at this;exact this
     rw [e];exact ih (i-1) (by omega) (by omega) (List.getElem_mem _)
theorem XY {k:Ai}: ∀{A B:List Ai},(∀y∈A,bl y k=true)→(∀y∈B,bl k y=true)→C3 k (A++B)=A++k::B∧C3 k (A++k::B)=A++k::B
 | [],B,_,hB=>by
  unfold C3;constructor
  ·cases B with
   |nil=>rfl
   |cons b B=>rw [List.nil_append,BB,if_pos (hB b (by simp))];rfl
  ·rw [List.nil_append,BB,if_neg (by rw [Jk];simp),if_pos rfl]
 |a::A,B,hA,hB=>by
  obtain⟨p,q⟩:=XY (A:=A) (B:=B) (fun y hy=>hA y (by simp [hy])) hB;have h1:=hA a (by simp);unfold C3 at p q ⊢;constructor
  ·rw [List.cons_append,BB,if_neg (by rw [Kz h1];simp),if_neg (fun e=>FB h1 e.symm),p];rfl
  ·rw [List.cons_append,BB,if_neg (by rw [Kz h1];simp),if_neg (fun e=>FB h1 e.symm),q]
theorem eJ {k:Ai} {l:List Ai} (h:G7 l):G7 (C3 k l):=Qc h
theorem yF {k:Ai} {l:List Ai} (h:G7 l) (y:Ai):y∈C3 k l↔y=k∨y∈l:=by
 unfold C3;rw [Qk h];constructor
 ·rintro(e|⟨e,_⟩)
  ·exact .inl e
  ·exact .inr e
 ·rintro(e|e)
  ·exact .inl e
  ·by_cases he:y=k
   ·exact .inl he
   ·exact .inr ⟨e,he⟩
theorem jQ {l:List Ai} (h:l.length≤2000000):Jh l=some l:=by unfold Jh;rw [Cp (by rw [List.length_nil];omega)]
theorem zwf {l:List Ai} {k:Ai} (hl:l.length≤1000) (hr:G7 l):Sy l k=some (C3 k l):=by
 have fin: ∀(A B:List Ai),A++B=l→(∀y∈A,bl y k=true∨y=k)→(∀y∈B,bl k y=true)→Ni l k (A.length:Int)=some (C3 k l):=by
  intro A B e hA hB;subst e;rw [AB]at hl;have t1:Br (A++B) (A.length:Int) (((A++B).length:Nat):Int)=B:=by unfold Br;rw [Int.toNat_natCast,Int.toNat_natCast,List.take_of_length_le (Nat.le_refl _)];simp
  have t2:Br (A++B) 0 (A.length:Int)=A:=by unfold Br;simp
  have put:(∀y∈A,bl y k=true)→ ∀(q:Option (List Ai)),q=some (C3 k (A++B))→q=some (C3 k (A++B)):=fun _ _ h=>h;have body:(∀y∈A,bl y k=true)→(req (0≤(A.length:Int)∧(A.length:Int)≤(((A++B).length:Nat):Int)∧(((A++B).length:Nat):Int)≤(((A++B).length:Nat):Int))<|
   (Jh (Br (A++B) (A.length:Int) (((A++B).length:Nat):Int))).bind fun v3=>
   req (0≤(0:Int)∧(0:Int)≤(A.length:Int)∧(A.length:Int)≤(((A++B).length:Nat):Int))<|
   (Jh (Br (A++B) 0 (A.length:Int))).bind fun v4=>
   req ((((v4).length:Int)+(([k]:List (Aa)).length:Int))*16≤140737488355328∧((v4).length:Int)+(([k]:List (Aa)).length:Int)≤140737488355328)<|
   req (((((v4++ [k])).length:Int)+((v3).length:Int))*16≤140737488355328∧(((v4++ [k])).length:Int)+((v3).length:Int)≤140737488355328)<|
   some ((v4++ [k])++v3))=some (C3 k (A++B)):=by
   intro hA;rw [t1,t2,Cp (by rw [AB];omega),jQ (by omega),Ab,Cp (by rw [AB];omega),jQ (by omega),Ab,Cp (by rw [Bk];omega),Cp (by rw [AB,Bk];omega),(XY hA hB).1];simp
  unfold Ni;rcases List.eq_nil_or_concat A with rfl|⟨A',z,rfl⟩
  ·rw [if_neg (by simp)];exact body (by simp)
  ·have hz:=hA z (by simp);have VI:G7 (A'++ [z]):=Da.sub hr (by rw [List.concat_eq_append];exact List.sublist_append_left _ _);have DJ: ∀y∈A',bl y z=true:=fun y hy=>(List.pairwise_append.1 VI).2.2 y hy z (by simp);have hlen:(A'.concat z).length=A'.length+1:=by simp
   have w1:IntKind.i64.wrap ((((A'.concat z).length:Nat):Int)-1)=((A'.length:Nat):Int):=by rw [hlen,B3 (by omega) (by omega)];omega
   have g1:getI (A'.concat z++B) ((A'.length:Nat):Int)=some z:=by unfold getI;rw [if_pos (by omega),Int.toNat_natCast,List.concat_eq_append,List.append_assoc,List.getElem?_append_right (by omega)];simp
   rw [if_pos (by rw [decide_eq_true_eq,hlen];omega),w1,g1,Ab];by_cases he:z=k
   ·subst he;rw [if_pos (by simp)];have:=(XY (A:=A') (B:=B) DJ hB).2;rw [List.concat_eq_append,List.append_assoc,List.singleton_append,this]
   ·rw [if_neg (by simpa using he)];have ZI:bl z k=true:=by
     rcases hz with h|h
     ·exact h
     ·exact absurd h he
    refine body fun y hy=> ?_;rw [List.concat_eq_append]at hy;rcases Af.1 hy with hy|hy
    ·exact Gu (DJ y hy) ZI
    ·rw [List.mem_singleton.1 hy];exact ZI
 unfold Sy;have key: ∀(n:Nat) (A B:List Ai),A.length=n→A++B=l→(∀y∈B,bl k y=true)→AL (fun s:Int=>H3 l k s) (n:Int)=some (C3 k l):=by
  intro n
  induction n with
  |zero=>
   intro A B hA e hB;have:A= []:=List.length_eq_zero_iff.1 hA;subst this;have hb:H3 l k ((0:Nat):Int)=some (.inr (Ni l k ((([]:List Ai).length:Nat):Int))):=by unfold H3;rw [if_neg (by simp)];rfl
   exact(Ez (body:=fun s:Int=>H3 l k s) hb).trans (fin [] B e (by simp) hB)
  |succ n ih=>
   intro A B hA e hB;rcases List.eq_nil_or_concat A with rfl|⟨A',z,rfl⟩
   ·simp at hA
   ·rw [List.concat_eq_append]at hA e;have hn:A'.length=n:=by simpa using hA
    have w1:IntKind.i64.wrap (((n+1:Nat):Int)-1)=(n:Int):=by
     have:n+1≤1000:=by rw [←e]at hl;simp at hl;omega
     rw [B3 (by omega) (by omega)];omega
    have g1:getI l (n:Int)=some z:=by subst e;unfold getI;rw [if_pos (by omega),Int.toNat_natCast,List.append_assoc,List.getElem?_append_right (by omega),hn];simp
    have VI:G7 (A'++ [z]):=Da.sub hr (by rw [←e];exact List.sublist_append_left _ _);have DJ: ∀y∈A',bl y z=true:=fun y hy=>(List.pairwise_append.1 VI).2.2 y hy z (by simp);by_cases hz:(bl z k||z==k)=true
    ·have eb:H3 l k ((n+1:Nat):Int)=some (.inr (Ni l k ((n+1:Nat):Int))):=by
      unfold H3;rw [if_pos (by rw [decide_eq_true_eq];omega),w1,g1,Ab,if_neg (by rw [show(Op.bytesLess z k||z==k)=true from hz];simp)]
     rw [Ez (body:=fun s:Int=>H3 l k s) eb];have ZK:bl z k=true∨z=k:=by simpa using hz
     have:=fin (A'++ [z]) B e (fun y hy=>by
      rcases Af.1 hy with hy|hy
      ·rcases ZK with h|h
       ·exact .inl (Gu (DJ y hy) h)
       ·exact .inl (by rw [←h];exact DJ y hy)
      ·rw [List.mem_singleton.1 hy];exact ZK) hB
     rw [AB,Bk,hn]at this;exact this
    ·rw [Bool.not_eq_true]at hz;have eb:H3 l k ((n+1:Nat):Int)=some (.inl (n:Int)):=by
      unfold H3;rw [if_pos (by rw [decide_eq_true_eq];omega),w1,g1,Ab,if_pos (by rw [show(Op.bytesLess z k||z==k)=false from hz];simp)]
     rw [Fx (body:=fun s:Int=>H3 l k s) eb];have Q6:bl z k=false∧z≠k:=by simpa using hz
     refine ih A' (z::B) hn (by rw [←e];simp) fun y hy=> ?_;rcases Ae.1 hy with rfl|hy
     ·exact L4 Q6.1 Q6.2
     ·exact hB y hy
 exact key l.length l [] rfl (by simp) (by simp)
theorem X6: ∀(ks o:List Ai),G7 o→G7 (ks.foldl (fun o k=>C3 k o) o)∧((∀y,y∈ks.foldl (fun o k=>C3 k o) o↔y∈ks∨y∈o)∧(ks.foldl (fun o k=>C3 k o) o).length≤ks.length+o.length)
 | [],o,h=>⟨h,by simp,by simp⟩
 |k::ks,o,h=>by
  obtain⟨a,b,c⟩:=X6 ks (C3 k o) (eJ h);refine⟨a,fun y=> ?_, ?_⟩
  ·rw [List.foldl_cons,b,yF h];simp only [Ae];constructor
   ·rintro(x|x|x)
    ·exact .inl (.inr x)
    ·exact .inl (.inl x)
    ·exact .inr x
   ·rintro((x|x)|x)
    ·exact .inr (.inl x)
    ·exact .inl x
    ·exact .inr (.inr x)
  ·have:=TJ (key:=fun s:Ai=>s) (x:=k) o;unfold C3 at c;rw [List.foldl_cons,AA];unfold C3;omega
def KO (ops:List Ap):List Ai × Bool:=if Fl ops=true then(KK ops,true)else([],false)
theorem wX (ops:List Ap):(KK ops).length≤ops.length:=by have:=(X6 ((ops.filter CM).map (·.ab)) [] .nil).2.2;unfold KK;have h2:=List.length_filter_le CM ops;rw [List.length_map,List.length_nil]at this;omega
theorem gY {ops:List Ap} (h:F2 ops):PJ ops=some (KO ops):=by
 unfold PJ KO;rw [P2 h,Ab];cases hg:Fl ops with
 |false=>rfl
 |true=>
  obtain⟨h8,_⟩:=Kv hg;rw [if_neg (by simp),if_pos rfl];have h1:=To (xs:=ops) (body:=fun s:Int × List Ai=>MR ops s.1 s.2) (fun i (o:List Ai)=>(i,o)) (fun o x=>if CM x=true then o++ [x.ab]else o) (fun o=>Wl o) (fun i o=>o.length≤i)
   (fun i hi o hI=>by
    have hI:o.length≤i:=hI;refine⟨?_,by show List.length _≤_;split;rw [AB,Bk];omega;omega⟩;show MR ops i o=_;unfold MR;rw [if_pos (by simpa using hi),BA hi,Ab,CZ hi (by omega)];show(if CM ops[i]=true then _ else _)=_;cases CM ops[i]with
    |false=>rfl
    |true=>rw [if_pos rfl,Cp (by rw [Bk];omega),if_pos rfl]) (fun o hI=>by
    show MR ops ops.length o=_;unfold MR;rw [if_neg (by simp)]) (s:= []) (Nat.le_refl _)
  refine h1.1.trans ?_;have e:ops.foldl (fun(o:List Ai) x=>if CM x=true then o++ [x.ab]else o) []=(ops.filter CM).map (·.ab):=by rw [vM CM (fun x:Ap=>x.ab) ops []];simp
  rw [e];have hlen:((ops.filter CM).map (·.ab)).length≤12:=by have h2:=List.length_filter_le CM ops;rw [List.length_map];omega
  unfold Wl RS;rw [zwd hlen,Ab,Ab];obtain⟨p,q,_⟩:=cI ((ops.filter CM).map (·.ab)) [] .nil;obtain⟨c1,c2⟩:=s9 p;obtain⟨k1,k2,_⟩:=X6 ((ops.filter CM).map (·.ab)) [] .nil;have:Lib.compact (KM ((ops.filter CM).map (·.ab)))=KK ops:=Da.ext (key:=fun s:Ai=>s) c1 k1 fun y=>by rw [show(y∈Lib.compact (KM ((ops.filter CM).map (·.ab)))↔y∈KM ((ops.filter CM).map (·.ab)))from c2 y];rw [show(y∈KM ((ops.filter CM).map (·.ab))↔_)from q y];exact(k2 y).symm
  rw [this]
theorem zwg {ops:List Ap} (h:F2 ops):R0 ops=some (KO ops):=by
 unfold R0 KO;rw [S9 h,Ab];cases hg:Fl ops with
 |false=>rfl
 |true=>
  obtain⟨h8,_⟩:=Kv hg;rw [if_neg (by simp),if_pos rfl];have h1:=To (xs:=ops) (body:=fun s:List Ai × Int=>MS ops s.1 s.2) (fun i (o:List Ai)=>(o,i)) (fun o x=>if CM x=true then C3 x.ab o else o) (fun o=>some (o,true)) (fun i o=>o.length≤i∧G7 o)
   (fun i hi o hI=>by
    have hI:o.length≤i∧G7 o:=hI;have hlen:=TJ (key:=fun s:Ai=>s) (x:=ops[i].ab) o;refine⟨?_, ?_⟩
    ·show MS ops o i=_;unfold MS WL;rw [if_pos (by simpa using hi),BA hi,Ab,Ab,CZ hi (by omega)];show(if CM ops[i]=true then _ else _)=_;cases CM ops[i]with
     |false=>rfl
     |true=>rw [if_pos rfl,zwf (by omega) hI.2,Ab,if_pos rfl]
    ·show List.length _≤_∧G7 _;split
     ·exact⟨by unfold C3;omega,eJ hI.2⟩
     ·exact⟨by omega,hI.2⟩) (fun o hI=>by
    show MS ops o ops.length=_;unfold MS;rw [if_neg (by simp)]) (s:= []) ⟨Nat.le_refl _, .nil⟩
  refine h1.1.trans ?_;have e: ∀(l:List Ap) (o:List Ai),l.foldl (fun(o:List Ai) x=>if CM x=true then C3 x.ab o else o) o=((l.filter CM).map (·.ab)).foldl (fun o k=>C3 k o) o:=by
   intro l
   induction l with
   |nil=>intro o;rfl
   |cons x l ih=>intro o;rw [List.foldl_cons,List.filter_cons,ih];cases CM x<;>rfl
  rw [e];rfl
def KH (l:List As):Prop:=l.length≤2000000∧ ∀g∈l,g.ab.length≤2000000∧g.ak.length≤2000000
def JH (l:List As) (i:Nat):Bool:=match l[i]? with|some g=>Cc g.ab&&(CW g.ak (!g.a7)&& !((l.take i).any fun h=>h.ab==g.ab))|none=>true
def GV (l:List As):Bool:=(List.range l.length).all (JH l)&&decide ((l.length:Int)≤8)
theorem gX {l:List As} {i:Nat} (hi:i<l.length):JH l i=(Cc l[i].ab&&(CW l[i].ak (!l[i].a7)&& !((l.take i).any fun h=>h.ab==l[i].ab))):=by unfold JH;rw [List.getElem?_eq_getElem hi]
theorem T7 {α:Type} (l:List α) (i:Nat):Br l 0 (i:Int)=l.take i:=by unfold Br;simp
theorem zwa {l:List As} (h:KH l):SF l=some (GV l):=by
 have hn:=h.1;unfold SF;rw [Qa (n:=l.length) (body:=fun s:Int=>Nh l s) (JH l) false (WA l) (fun i hi=>by
  show Nh l i=_;have hm:=h.2 _ (List.getElem_mem hi);rw [gX hi];unfold Nh;rw [if_pos (by simpa using hi),BA hi,Ab,YF hm.1,Ab];cases Cc l[i].ab with
  |false=>rfl
  |true=>
   rw [if_pos rfl,eN hm.2,Ab];cases CW l[i].ak (!l[i].a7)with
   |false=>rfl
   |true=>rw [if_pos rfl,Cp (by omega),T7,TR (p:=fun y0_=>Wx y0_ l[i]) (fun x:As=>x.ab==l[i].ab) (fun x _=>rfl) (by rw [List.length_take];omega),Ab,CZ hi (by omega)];cases(l.take i).any (fun x:As=>x.ab==l[i].ab)<;>rfl) (by
  show Nh l l.length=_;unfold Nh;rw [if_neg (by simp)])]
 unfold WA GV;cases(List.range l.length).all (JH l)<;>simp
theorem zQ {l:List As} (h:KH l):Sz l=some (GV l):=by
 have hn:=h.1;unfold Sz;rw [Qa (n:=l.length) (body:=fun s:Int=>MX l s) (JH l) false (Wz l) (fun i hi=>by
  show MX l i=_;have hm:=h.2 _ (List.getElem_mem hi);rw [gX hi];unfold MX;rw [if_pos (by simpa using hi),BA hi,Ab,Ys hm.1,Ab];cases Cc l[i].ab with
  |false=>rfl
  |true=>
   rw [if_pos rfl,YD hm.2,Ab];have est:((!EO l[i].ak)||((!l[i].a7)&&(l[i].ak !=([]:Aa))))= !CW l[i].ak (!l[i].a7):=by unfold CW;cases EO l[i].ak<;>cases l[i].a7<;>simp [bne]
   rw [est];cases CW l[i].ak (!l[i].a7)with
   |false=>rfl
   |true=>
    rw [if_neg (by simp),Cp (by omega)];have hit:(l.take i).length=i:=by rw [List.length_take];omega
    have e4:AL (fun s:Int=>LL l i l[i] s) 0=if(l.take i).all (fun x:As=> !(l[i].ab==x.ab))=true then R9 (i:Int)else some (.inr (some false)):=by
     refine IB (xs:=l.take i) (body:=fun s:Int=>LL l i l[i] s) (fun x:As=> !(l[i].ab==x.ab)) (.inr (some false)) (R9 (i:Int)) (fun j hj=> ?_) ?_
     ·show LL l i l[i] j=_;unfold LL;rw [T7,if_pos (by simpa using hj),BA hj,Ab,CZ hj (by omega)];cases(l[i].ab==(l.take i)[j].ab)<;>rfl
     ·show LL l i l[i] (l.take i).length=_;unfold LL;rw [T7,if_neg (by simp)]
    rw [e4];unfold R9;have ea:(l.take i).all (fun x:As=> !(l[i].ab==x.ab))= !((l.take i).any fun h=>h.ab==l[i].ab):=by rw [Bool.eq_iff_iff];simp only [AN,Bool.not_eq_true',List.any_eq_false,beq_eq_false_iff_ne,beq_iff_eq];exact⟨fun q x hx e=>q x hx e.symm,fun q x hx e=>q x hx e.symm⟩
    rw [ea,CZ hi (by omega)];cases(l.take i).any (fun h=>h.ab==l[i].ab)<;>rfl) (by
  show MX l l.length=_;unfold MX;rw [if_neg (by simp)])]
 unfold Wz GV;cases(List.range l.length).all (JH l)<;>simp
theorem Xd {l:List As} (h:GV l=true):l.length≤8∧JN l:=by
 unfold GV at h;rw [Ac,decide_eq_true_eq,AN]at h;refine⟨by omega,fun g hg=> ?_⟩;obtain⟨i,hi,rfl⟩:=List.getElem_of_mem hg;have:=h.1 i (by simpa using hi);unfold JH CW at this;rw [List.getElem?_eq_getElem hi]at this;simp only [Ac,Bool.or_eq_true,Bool.not_eq_true',beq_iff_eq]at this;refine⟨by have:=Qd this.2.1.1;omega,fun ht=> ?_⟩;rcases this.2.1.2 with q|q
 ·rw [ht]at q;simp at q
 ·exact q
theorem tO {l:List As} (h8:l.length≤8) (hk: ∀g∈l,Cc g.ab=true) (hs: ∀g∈l,CW g.ak (!g.a7)=true) (hn:(l.map (·.ab)).Nodup):GV l=true:=by
 unfold GV;rw [Ac,decide_eq_true_eq,AN];refine⟨fun i hi=> ?_,by omega⟩;have hi:i<l.length:=by simpa using hi
 unfold JH;rw [List.getElem?_eq_getElem hi];dsimp only;rw [hk _ (List.getElem_mem hi),hs _ (List.getElem_mem hi)];simp only [Bool.true_and,Bool.not_eq_true',List.any_eq_false,beq_iff_eq];intro x hx e;obtain⟨j,hj,rfl⟩:=List.getElem_of_mem hx;have Iq:j<i:=by rw [List.length_take]at hj;omega
 rw [List.getElem_take]at e;have:=(List.pairwise_iff_getElem.1 hn) j i (by simp;omega) (by simpa using hi) Iq;simp at this;exact this e
def II (ops:List Ap) (got:List As):Int × Ai × List Ag × Bool:=if Fl ops=true∧GV got=true then((Bp got ops []).1,(Bp got ops []).2.1,(Bp got ops []).2.2,true)else(0, [], [],false)
theorem Xp {ops:List Ap} {got:List As} (ho:F2 ops) (hg:KH got):Nd ops got=some (II ops got):=by
 unfold Nd II;rw [P2 ho,Ab];cases h1:Fl ops with
 |false=>simp
 |true=>
  rw [if_pos rfl,zwa hg,Ab];cases h2:GV got with
  |false=>simp
  |true=>obtain⟨h8,Hf⟩:=Kv h1;obtain⟨g8,gg⟩:=Xd h2;rw [if_neg (by simp),fD (by omega) Hf (by omega) gg,Ab,if_pos ⟨rfl,rfl⟩]
theorem u4 {ops:List Ap} {got:List As} (ho:F2 ops) (hg:KH got):Sq ops got=some (II ops got):=by
 unfold Sq II;rw [S9 ho,Ab];cases h1:Fl ops with
 |false=>simp
 |true=>
  rw [if_pos rfl,zQ hg,Ab];cases h2:GV got with
  |false=>simp
  |true=>obtain⟨h8,Hf⟩:=Kv h1;obtain⟨g8,gg⟩:=Xd h2;rw [if_neg (by simp),gL (by omega) Hf (by omega) gg,Ab,if_pos ⟨rfl,rfl⟩]
theorem xS (ops:List Ap) (got:List As):(II ops got).2.2.1.length≤8:=by
 unfold II;split
 ·rename_i h;obtain⟨h8,Hf⟩:=Kv h.1;obtain⟨g8,gg⟩:=Xd h.2;have:=(S7 gg ops (n:=0) (ws:= []) Hf ⟨List.Pairwise.nil,Nat.le_refl _,by simp⟩).1.len;show(Bp got ops []).2.2.length≤8;omega
 ·simp
theorem TG {l:List Ag} (h:l.length≤2000000):M0 l l=some true:=by
 unfold M0;rw [if_neg (by simp),IB (xs:=l) (body:=fun s:Int=>M7 l l s) (fun _=>true) false (some true) (fun i hi=>by
  show M7 l l i=_;unfold M7;rw [if_pos (by simpa using hi),BA hi,Ab,Ab,CZ hi (by omega)];simp) (by
  show M7 l l l.length=_;unfold M7;rw [if_neg (by simp)]),if_pos (AN.2 fun _ _=>rfl)]
theorem rB {code:List Int} (h: ∀b∈code,0≤b∧b≤255):BT (R2 code) fun p=>JB p.1∧F2 p.2:=by unfold R2;exact(zT (c:=⟨code,0,0⟩) (B7.start h) (by omega)).bind fun v ⟨hv,hc⟩=>(XO hc (by omega)).bind fun w ⟨hw,_⟩=> .ret ⟨hv.small (by omega),hw.small (by omega)⟩
theorem tS {code:List Int} (h: ∀b∈code,0≤b∧b≤255):BT (RZ code) fun p=>F2 p:=by unfold RZ Wq;refine BT.bind (P:=fun p=>F2 p) ?_ fun x hx=> .ret hx;exact(XO (c:=⟨code,0,0⟩) (B7.start h) (by omega)).bind fun w ⟨hw,_⟩=> .ret (hw.small (by omega))
theorem tP {code:List Int} (h: ∀b∈code,0≤b∧b≤255):BT (Si code) fun p=>F2 p.1∧KH p.2:=by
 unfold Si;refine(XO (c:=⟨code,0,0⟩) (B7.start h) (by omega)).bind fun v ⟨hv,hc⟩=> ?_;refine S5 (fun j s=> ∃q:Nat,s.2.1=(q:Int)∧q+j=5∧s.1.length≤q∧(∀g∈s.1,g.ab.length≤2000000∧g.ak.length≤2000000)∧B7 ⟨s.2.2.1,s.2.2.2.1,s.2.2.2.2⟩ (0+400+10*q)) (fun j s hI=> ?_) (n:=5) ⟨0,rfl,by omega,by simp,by simp,by simpa using hc⟩;obtain⟨l,s1,a,b,e⟩:=s;obtain⟨q,i1,i0,i2,i4,i3⟩:=hI;dsimp only at i1 i2 i3 i4 ⊢;subst i1;have roomG: ∀g:As,(((l).length:Int)+(([g]:List As).length:Int))*40≤140737488355328∧((l).length:Int)+(([g]:List As).length:Int)≤140737488355328:=by intro g;rw [Bk];omega
 have add: ∀g:As,g.ab.length≤2000000∧g.ak.length≤2000000→ ∀x∈l++ [g],x.ab.length≤2000000∧x.ak.length≤2000000:=fun g hg x hx=>by
  rcases Af.1 hx with hx|hx
  ·exact i4 x hx
  ·rw [List.mem_singleton.1 hx];exact hg
 unfold aJ;refine .ite (fun Au=> ?_) fun J0=> .ret ?_
 ·have hq:q<5:=by
   simp only [decide_eq_true_eq]at Au;have:(([([97]:Aa),([98]:Aa),([99]:Aa),([109]:Aa),([110]:Aa)].length:Int))=5:=rfl;omega
  have w1:IntKind.i64.wrap ((q:Int)+1)=((q+1:Nat):Int):=by rw [B3 (by omega) (by omega)];omega
  refine BT.bind (P:=fun y:Ai=>y.length≤10) (.getI (by omega) (by show(q:Int)<5;omega) (fun x hx=> ?_)) fun y hy=> ?_
  ·simp only [Ae,List.not_mem_nil,or_false]at hx;rcases hx with rfl|rfl|rfl|rfl|rfl<;>simp
  refine(NP 2 i3 (by omega)).bind fun u hu=> .ite (fun _=> ?_) fun _=> .ret ⟨j-1,by omega,q+1,w1,by omega,by dsimp only;omega,i4,hu.up (by omega)⟩;refine(jL hu (by omega)).bind fun r ⟨hr,hd⟩=> .req (roomG _) ((NP 4 hd (by omega)).bind fun z hz=> .ite (fun _=> ?_) fun _=> ?_)
  ·have hlen:(l++ [(⟨y,r.1,true⟩:As)]).length=l.length+1:=by simp
   have w2:IntKind.i64.wrap (((l++ [(⟨y,r.1,true⟩:As)]).length:Int)-1)=((l.length:Nat):Int):=by rw [hlen,B3 (by omega) (by omega)];omega
   have g1:getI (l++ [(⟨y,r.1,true⟩:As)]) ((l.length:Nat):Int)=some ⟨y,r.1,true⟩:=by unfold getI;rw [if_pos (by omega),Int.toNat_natCast];simp
   rw [w2,g1,Ab,Int.toNat_natCast];refine .ret ⟨j-1,by omega,q+1,w1,by omega, ?_,fun x hx=> ?_,hz.up (by omega)⟩
   ·show((l++ [(⟨y,r.1,true⟩:As)]).set l.length _).length≤q+1;rw [List.length_set,hlen];omega
   ·rcases List.mem_or_eq_of_mem_set hx with hx|hx
    ·exact add ⟨y,r.1,true⟩ ⟨by show y.length≤_;omega,by have:=Qd hr;show r.1.length≤_;omega⟩ x hx
    ·rw [hx];exact⟨by show y.length≤_;omega,by simp⟩
  ·refine .ret ⟨j-1,by omega,q+1,w1,by omega, ?_,add _ ⟨by show y.length≤_;omega,by have:=Qd hr;show r.1.length≤_;omega⟩,hz.up (by omega)⟩;show(l++ [_]).length≤q+1;rw [AB,Bk];omega
 ·have j2: ∀(bb:Bool),(bb=true→0<l.length)→BT (R7 v l bb) fun p=>F2 p.1∧KH p.2:=by
   intro bb ME;unfold R7;refine .ite (fun h=> ?_) fun _=> .ret ⟨hv.small (by omega),by dsimp only;omega,i4⟩;obtain⟨x,ex,hx,_⟩:=TK (xs:=l) (i:=0) (by omega) (by have:=ME h;omega);rw [ex,Ab];exact .req (roomG _) (.ret ⟨hv.small (by omega),by simp;omega,add x (i4 x hx)⟩)
  unfold aH;refine .ite (fun HN=> ?_) fun _=>j2 false (by simp);simp only [decide_eq_true_eq]at HN;exact(NP 20 i3 (by omega)).bind fun w _=>j2 _ fun _=>by omega
theorem gE {l:List As} (h:l.length≤2000000):Sg l l=some true:=by
 unfold Sg;rw [if_neg (by simp),IB (xs:=l) (body:=fun s:Int=>M9 l l s) (fun _=>true) false (some true) (fun i hi=>by
  show M9 l l i=_;unfold M9;rw [if_pos (by simpa using hi),BA hi,Ab,Ab,CZ hi (by omega)];simp) (by
  show M9 l l l.length=_;unfold M9;rw [if_neg (by simp)]),if_pos (AN.2 fun _ _=>rfl)]
theorem tT {l:List Ai} (h:l.length≤2000000):Sa l l=some true:=by
 unfold Sa;rw [if_neg (by simp),IB (xs:=l) (body:=fun s:Int=>Na l l s) (fun _=>true) false (some true) (fun i hi=>by
  show Na l l i=_;unfold Na;rw [if_pos (by simpa using hi),BA hi,Ab,Ab,CZ hi (by omega)];simp) (by
  show Na l l l.length=_;unfold Na;rw [if_neg (by simp)]),if_pos (AN.2 fun _ _=>rfl)]
theorem fQ {b:List Int} (hb: ∀x∈b,0≤x∧x≤255):Sl b=some true:=by
 unfold Sl;obtain⟨⟨ops,got⟩,hd,ho,hg⟩:=tP hb;obtain⟨ks,hk,O1⟩:=tS hb;dsimp only at ho hg;have h1:=xS ops got;have h2:(KO ks).1.length≤2000000:=by
  unfold KO;split
  ·have:=wX ks;have:=O1.1;show(KK ks).length≤_;omega
  ·simp
 rw [hd,Ab,Xp ho hg,Ab,u4 ho hg,Ab,hk,Ab,gY O1,Ab,zwg O1,Ab];rw [if_pos (by simp),if_pos (by simp),if_pos (by simp),TG (by omega),Ab,if_pos rfl,if_pos (by simp),tT h2,Ab]
def KE (rows:List Ag) (ops:List Ap):List As × List Ag × Bool × Bool:=
 if GR rows=true∧Fl ops=true then((DW rows ops).1,(DW rows ops).2.1,(DW rows ops).2.2,true)else([], [],false,false)
theorem wG {rows:List Ag} {ops:List Ap} (hr:JB rows) (ho:F2 ops):Sx rows ops=some (KE rows ops):=by
 unfold Sx KE;rw [zW hr,Ab];cases h1:GR rows with
 |false=>simp
 |true=>
  rw [if_pos rfl,P2 ho,Ab];cases h2:Fl ops with
  |false=>simp
  |true=>obtain⟨h8,Hf⟩:=Kv h2;rw [if_neg (by simp),(X3 h8 Hf (Tp h1).1).1,Ab,if_pos ⟨rfl,rfl⟩]
theorem xP {rows:List Ag} {ops:List Ap} (hr:JB rows) (ho:F2 ops):Sv rows ops=some (KE rows ops):=by
 unfold Sv KE;rw [zM hr,Ab];cases h1:GR rows with
 |false=>simp
 |true=>
  rw [if_pos rfl,S9 ho,Ab];cases h2:Fl ops with
  |false=>simp
  |true=>obtain⟨h8,Hf⟩:=Kv h2;rw [if_neg (by simp),(X3 h8 Hf (Tp h1).1).2.1,Ab,if_pos ⟨rfl,rfl⟩]
theorem bT {ops:List Ap} (ho:F2 ops):SH ops=some (Fl ops):=by unfold SH;rw [S9 ho];rfl
theorem yS {rows:List Ag} {ops:List Ap} {k:Nat} {g:As} (hr:rows.length≤2000000):AL (fun s:Bool × Int=>LQ (rows,ops) (k:Int) g s.1 s.2) (false,0)=Sd (k:Int) g (rows.any fun r=>r.ab==g.ab&&r.ak==g.ak):=by
 have h1:=To (xs:=rows) (body:=fun s:Bool × Int=>LQ (rows,ops) (k:Int) g s.1 s.2) (fun i (o:Bool)=>(o,i)) (fun o r=>o||(r.ab==g.ab&&r.ak==g.ak)) (fun o=>Sd (k:Int) g o) (fun _ _=>True)
  (fun i hi o _=>by
   refine⟨?_,trivial⟩;show LQ (rows,ops) (k:Int) g o i=_;unfold LQ;dsimp only;rw [if_pos (by simpa using hi),BA hi,Ab,CZ hi (by omega)]) (fun o _=>by
   show LQ (rows,ops) (k:Int) g o rows.length=_;unfold LQ;dsimp only;rw [if_neg (by simp)]) (s:=false) trivial
 refine h1.1.trans ?_;have e: ∀(l:List Ag) (o:Bool),l.foldl (fun o r=>o||(r.ab==g.ab&&r.ak==g.ak)) o=(o||l.any fun r=>r.ab==g.ab&&r.ak==g.ak):=by
  intro l
  induction l with
  |nil=>intro o;simp
  |cons r l ih=>intro o;rw [List.foldl_cons,ih,List.any_cons,Bool.or_assoc]
 rw [e,Bool.false_or]
theorem yA (c b:List Int) (hc:RM Mt c) (hb:RM Mt b):SQ c b=some true:=by
 unfold SQ Xq;rw [Ab];refine zyj (fun _=>rfl) fun _=> ?_;obtain⟨⟨rows,ops⟩,hd,hR,hO⟩:=rB hc.2;dsimp only at hR hO;rw [hd,Ab,wG hR hO,Ab,xP hR hO,Ab];by_cases Aq:GR rows=true∧Fl ops=true
 ·obtain⟨h8,Hf⟩:=Kv Aq.2;obtain⟨Uw,Zq⟩:=Tp Aq.1;obtain⟨_,_,hw,J2,mC⟩:=X3 h8 Hf Uw;have hE:=xI h8 Hf Uw;obtain⟨suf,es,ht,hp⟩:=eZ (rows:=rows) (ops:=ops) 9 [];have es:(DW rows ops).1=suf:=by unfold DW;rw [es];rfl
  have eF:KE rows ops=(suf,(DW rows ops).2.1,(DW rows ops).2.2,true):=by unfold KE;rw [if_pos Aq,es]
  rw [eF];have hlen:=hE.len;have By:=hE.nodup;have Lj:=hE.key;have EZ:=hE.ask;have RC:=hE.ws;have JV:=hE.done;rw [es]at hlen By Lj EZ RC JV J2 mC;have Ef: ∀g∈suf,CW g.ak (!g.a7)=true:=fun g hg=>by
   rw [ht g hg];unfold CX;cases e:rows.find? (fun w=>w.ab==g.ab)with
   |some w=>have:=Uw.dk w (List.mem_of_find?_eq_some e);unfold Dp CW at this;simp only [Ac]at this;show CW w.ak (!true)=true;unfold CW;rw [this.2.1];rfl
   |none=>show CW ([]:Ai) (!false)=true;decide
  have OV: ∀k,GV (suf.take k)=true:=fun k=>tO (by rw [List.length_take];omega) (fun g hg=>Lj g (List.mem_of_mem_take hg)) (fun g hg=>Ef g (List.mem_of_mem_take hg)) (by rw [List.map_take];exact List.Nodup.sublist (List.take_sublist _ _) By)
  have Rw: ∀k,KH (suf.take k):=fun k=>⟨by rw [List.length_take];omega,fun g hg=>⟨by have:=eI (Lj g (List.mem_of_mem_take hg));omega,by have:=(J2 g (List.mem_of_mem_take hg)).1;omega⟩⟩
  have RA:=hw.len;rw [if_neg (by simp),if_neg (by simp),gE (by dsimp only;omega),Ab,if_pos rfl,TG (by dsimp only;omega),Ab,if_pos rfl];dsimp only;rw [P2 hO,Ab,bT hO,Ab,if_neg (by simp),if_pos rfl];rw [IB (xs:=suf) (body:=fun s:Int=>M4 b (rows,ops) (suf,(DW rows ops).2.1,(DW rows ops).2.2,true) s) (fun _=>true) false (Wt b (rows,ops) (suf,(DW rows ops).2.1,(DW rows ops).2.2,true)) (fun i hi=>by
   show M4 b (rows,ops) _ i=_;obtain⟨p1,p2⟩:=hp i hi;rw [List.nil_append]at p1 p2;have hv:II ops (suf.take i)=(1,(suf[i]).ab,(Bp (suf.take i) ops []).2.2,true):=by unfold II;rw [if_pos ⟨Aq.2,OV i⟩,p1,p2]
   unfold M4;dsimp only;rw [if_pos (by simpa using hi),Cp (by omega),T7,Xp hO (Rw i),Ab,hv];dsimp only;rw [if_pos rfl,if_neg (by simp),BA hi,Ab,if_neg (by simp),CZ hi (by omega),if_pos rfl]) (by
   show M4 b (rows,ops) _ suf.length=_;unfold M4;dsimp only;rw [if_neg (by simp)]),if_pos (AN.2 fun _ _=>rfl)]
  unfold Wt;dsimp only;have VO:KH suf:=by have:=Rw suf.length;rwa [List.take_length]at this
  have OU:GV suf=true:=by have:=OV suf.length;rwa [List.take_length]at this
  have hv:II ops suf=((Bp suf ops []).1,(Bp suf ops []).2.1,(DW rows ops).2.1,true):=by unfold II;rw [if_pos ⟨Aq.2,OU⟩,RC]
  have Lk:KO ops=(KK ops,true):=by unfold KO;rw [if_pos Aq.2]
  rw [Xp hO VO,Ab,hv,gY hO,Ab,Lk];dsimp only;rw [if_pos rfl,JV,if_neg (by simp),if_neg (by simpa using EZ),TG (by omega),Ab];have OM:=P1 (got:=suf) ops [];have Ay:(((((!true)||(!true))||(((Bp suf ops []).1==3)&&(((KK ops).length:Int) !=((DW rows ops).2.1.length:Int))))||((!((Bp suf ops []).1==3))&&(decide (((DW rows ops).2.1.length:Int)>0)))))=false:=by
   rcases OM with h|h|⟨h,h2⟩
   ·exact absurd h EZ
   ·have hk:=congrArg List.length (P0 (got:=suf) ops [] h);rw [List.length_map,←RC]at hk;have:(KK ops).length=(DW rows ops).2.1.length:=hk.symm;rw [h,this];simp
   ·rw [RC,h,h2];rfl
  rw [if_neg (by rw [Ay];simp)];rw [IB (xs:=suf) (body:=fun s:Int=>M5 b (rows,ops) (suf,(DW rows ops).2.1,((Bp suf ops []).1==3),true) s) (fun _=>true) false (Wn b) (fun i hi=>by
   show M5 b (rows,ops) _ i=_;unfold M5;dsimp only;rw [if_pos (by simpa using hi),BA hi,Ab,yS hR.1];unfold Sd;have hg:=ht _ (List.getElem_mem hi);have ZC:=vE (rows:=rows) (k:=(suf[i]).ab);rw [←hg]at ZC;rw [←ZC,if_neg (by simp),CZ hi (by omega),if_pos rfl]) (by
   show M5 b (rows,ops) _ suf.length=_;unfold M5;dsimp only;rw [if_neg (by simp)]),if_pos (AN.2 fun _ _=>rfl)]
  unfold Wn;exact fQ hb.2
 ·have eF:KE rows ops=([], [],false,false):=by unfold KE;rw [if_neg Aq]
  rw [eF];dsimp only;rw [if_neg (by simp),if_neg (by simp),gE (by simp),Ab,if_pos rfl,TG (by simp),Ab,if_pos rfl,P2 hO,Ab,bT hO,Ab,if_neg (by simp),if_neg (by simp)];exact fQ hb.2
theorem tU {H:Type} {enc:TypeId × Value→H} {P:Program} {w:World} {base:Nat} {sp:Nat→Bool} {held:Bool} {fuel:Nat} {t:TypeId} {cs:List Value} {n:String} {d:DataW H} {p:List MemPlace} {u:TypeDesc}
  (ht:P.underlying t=some u) (hu:(match u with| .interface _=>true|_=>false)=true) (h:DataW.trod enc P w base sp held fuel t cs=some (.iface n d,p)): ∃a v,cs= [.iface a v]:=by
 cases fuel with
 |zero=>simp [DataW.trod]at h
 |succ fuel=>
  cases u<;>first|(cases hu;done)|skip
  simp only [DataW.trod,ht]at h;split at h<;>first|(exact⟨_,_,rfl⟩)|(simp at h;done)|(simp_all;done)
noncomputable def jZ (s:String):Bool:=match(Tryz.prog.globalNamed s).bind (fun g=>(Tryz.prog.globals[g]?).map (·.type))with
 |some t=>(match Tryz.prog.underlying t with|some (.interface _)=>true|_=>false)
 |none=>false
noncomputable def jP (s:String):Bool:=match(Tryz.prog.globalNamed s).bind (fun g=>(Tryz.prog.globals[g]?).map (·.type))with
 |some t=>(match Tryz.prog.underlying t with
  |some (.array n e)=>(match Tryz.prog.underlying e with|some (.int .u64)=>true|_=>false)&&Tryz.prog.cellsOf e==1&&Tryz.prog.cellsOf t==n
  |_=>false)
 |none=>false
theorem fG {s:String} {D:DataW Unit} {W:World} (h:laidMet Tryz.prog [(s,D)] W) (hc:jZ s=true) (hd: ∃n d,D= .iface n d): ∃t p,W.var? Tryz.prog s=some #[.iface t p]:=by
 obtain⟨ps,⟨g,t,cs,fuel,p,q,hg,ht,Pw,Rx,_,_⟩,_⟩:=h;obtain⟨n,d,rfl⟩:=hd;unfold jZ at hc;rw [hg,Ab,ht]at hc;simp only at hc;cases hu:Tryz.prog.underlying t with
 |none=>rw [hu]at hc;cases hc
 |some u=>obtain⟨a,v,e⟩:=tU hu (by rw [hu]at hc;cases u<;>first|rfl|cases hc) Rx;refine⟨a,v, ?_⟩;rw [Pw];congr 1;apply Array.ext';rw [e]
theorem zwJ {s:String} {W:World} (h:laidMet Tryz.prog [(s,Lib.tabData .u64 Lib.pow10Tab)] W) (hc:jP s=true):Lib.TabIs Tryz.prog W s .u64 Lib.pow10Tab:=by
 have h0:=h;obtain⟨ps,⟨g,t,cs,fuel,p,q,hg,ht,Pw,Rx,_,_⟩,_⟩:=h;unfold jP at hc;rw [hg,Ab,ht]at hc;simp only at hc;split at hc
 ·rename_i n e hu;simp only [Ac,beq_iff_eq]at hc;obtain⟨⟨h1,h2⟩,h3⟩:=hc;split at h1
  ·rename_i he;exact Lib.tabIs_of_head hg ht hu he h2 h3 h0
  ·cases h1
 ·cases hc
theorem zS {laid:List (String × DataW Unit)} {D1 D2 D3:DataW Unit} {W:World} (h:laidMet Tryz.prog laid W)
  (e1:(laid.filter fun x=>x.1== "strconv.ErrSyntax")= [("strconv.ErrSyntax",D1)]) (i1: ∃n d,D1= .iface n d)
  (e2:(laid.filter fun x=>x.1== "strconv.ErrRange")= [("strconv.ErrRange",D2)]) (i2: ∃n d,D2= .iface n d)
  (e3:(laid.filter fun x=>x.1== "internal/strconv.uint64pow10")= [("internal/strconv.uint64pow10",D3)]) (i3:D3=Lib.tabData .u64 Lib.pow10Tab):EN.n≤W.heap.size∧EN.K W:=by
 have h1:=h.filter fun x=>x.1== "strconv.ErrSyntax"
 have h2:=h.filter fun x=>x.1== "strconv.ErrRange"
 have h3:=h.filter fun x=>x.1== "internal/strconv.uint64pow10"
 rw [e1]at h1;rw [e2]at h2;rw [e3,i3]at h3;have k:V6 W:=⟨fG h1 (by kernel_rfl) i1,fG h2 (by kernel_rfl) i2,(zwJ h3 (by kernel_rfl)).trans (by kernel_rfl)⟩
 exact⟨zwA k,k⟩
end Go.Proofs.YtollgpkegmbpmaaGreatDoor
end

/- Parts of a proof, joined: NW, NY, NSA, NO, NKC, NDD, NKD, NZ, NKE, PL. -/
import Derived.Test.YtlhlgboblghkdaaGreatDoorS10
import Derived.Lib.LaidTab
import Derived.LaidSub
set_option linter.unusedVariables false
set_option linter.unusedSimpArgs false
section
namespace Go.Proofs.YtlhlgboblghkdaaGreatDoor
open Go.RowKit
set_option maxRecDepth 100000
theorem jO {α:Type}: ∀(xs a:List α),xs.foldl (fun o x=>o++ [x]) a=a++xs
 | [],a=>by simp
 |x::xs,a=>by rw [List.foldl_cons,jO xs (a++ [x])];simp
theorem qA {o p:List Ad} (h:o.length≤2000001) (hn:p.length≤5):((o.length:Int)+(p.length:Int))*64≤140737488355328∧(o.length:Int)+(p.length:Int)≤140737488355328:=by omega
theorem xO {s:Am} (hS:Dp s):TF s=some s:=by
 have h1:=hS.at_;have h2:=hS.store.1;have h3:=hS.ways;have c1:dV s.a7=some s.a7:=OL (by omega) (by omega);have c2:Oc s.ao=some s.ao:=OL (by omega) (by omega);unfold TF;rw [c1,c2,Aa,Aa];have h:=Ft (xs:=s.ah) (body:=fun q:Int × List Ad=>PV s s.a7 s.ao q.1 q.2) (fun i (o:List Ad)=>(i,o)) (fun o t=>o++ [t]) (fun o=>some ⟨s.ab,o,s.a7,s.ao⟩) (fun i o=>o.length=i)
  (fun i hi o hI=>by have hI:o.length=i:=hI;refine⟨?_,by show List.length _=_;rw [Ao,AD];omega⟩;show PV s s.a7 s.ao i o=_;unfold PV;rw [if_pos (by simpa using hi),AO hi,Aa,mF (hS.way _ (List.getElem_mem hi)),Aa,AJ (qA (by omega) (by simp)),Bi hi (by omega)])
  (fun o _=>by show PV s s.a7 s.ao s.ah.length o=_;unfold PV;rw [if_neg (by simp)]) (s:= []) rfl
 rw [jO]at h;exact h.1
theorem UW {s:Am} (hS:Dp s):Qy s=some s:=by
 have h1:=hS.at_;have h2:=hS.store.1;have h3:=hS.ways;have c1:Yc s.a7=some s.a7:=by unfold Yc;rw [AJ (by rw [List.length_nil];omega)]
 have hq:((([]:List Ac).length:Int)+((s.ao).length:Int))*40≤140737488355328∧(([]:List Ac).length:Int)+((s.ao).length:Int)≤140737488355328:=by rw [List.length_nil];omega
 unfold Qy;rw [c1,Aa,AJ hq];have h:=Ft (xs:=s.ah) (body:=fun q:Int × List Ad=>P9 s s.a7 q.1 q.2) (fun i (o:List Ad)=>(i,o)) (fun o t=>o++ [t]) (fun o=>some ⟨s.ab,o,s.a7,s.ao⟩) (fun i o=>o.length=i)
  (fun i hi o hI=>by have hI:o.length=i:=hI;refine⟨?_,by show List.length _=_;rw [Ao,AD];omega⟩;show P9 s s.a7 i o=_;unfold P9;rw [if_pos (by simpa using hi),AO hi,Aa,cM (hS.way _ (List.getElem_mem hi)),Aa,AJ (qA (by omega) (by simp)),Bi hi (by omega)])
  (fun o _=>by show P9 s s.a7 s.ah.length o=_;unfold P9;rw [if_neg (by simp)]) (s:= []) rfl
 rw [jO]at h;exact h.1
def bare (a:A2):Bool:=((a.aj==0)&&((a.bd.aw.length:Int)==0))&&((a.bj.aw.length:Int)==0)
structure NY (s:Am) (a:BN):Prop where
 srv:0≤a.a8∧a.a8≤(s.a7.length:Int)-1
 step:a.bc=0∨a.bc=1∨a.bc= -1
 act:a.bc=0→ ∃y t,getI s.a7 a.a8=some y∧getI s.ah y=some t∧t∈s.ah∧Hb t a.bp=true
theorem G9 {t:Ad} {n:Ai} (h:BR t n=true):AZ t=true:=by unfold BR at h;simp only [Ae]at h;exact h.1
theorem Zb {s:Am} (hg:Cr s) {i:Int} (h:0≤i∧i≤(s.a7.length:Int)-1): ∃y t,getI s.a7 i=some y∧getI s.ah y=some t∧t∈s.ah∧0≤y∧y≤(s.ah.length:Int)-1:=by obtain⟨y,e1,hy,_⟩:=IJ (xs:=s.a7) h.1 (by omega);have hb:=hg.2.2.2.2.2.1 y hy;obtain⟨t,e2,ht,_⟩:=IJ (xs:=s.ah) hb.1 (by omega);exact⟨y,t,e1,e2,ht,hb.1,hb.2⟩
def QU (s:Am) (t:Ad) (a:BN):Bool:=
 BL a.a8 0 ((s.a7.length:Int)-1)&&(if a.bc=0 then Hb t a.bp else if a.bc=1∨a.bc= -1 then bare a.bp else false)
def Lu (s:Am) (i:Int):Ad:=(getI s.ah ((getI s.a7 i).getD 0)).getD L5
theorem zxA {s:Am} {a:BN} (hg:Cr s) (hA:F6 a.bp):TP s a=some (QU s (Lu s a.a8) a):=by
 have h3:=BW.1 hg.2.2.2.2.1;have w:IntKind.i64.wrap ((s.a7.length:Int)-1)=(s.a7.length:Int)-1:=Bh (by omega) (by omega);unfold TP QU;rw [w,Hd,Aa];cases hv:BL a.a8 0 ((s.a7.length:Int)-1)with
 |false=>rfl
 |true=>
  obtain⟨y,t,e1,e2,ht,_,_⟩:=Zb hg (BW.1 hv);have hc:=Ij (G9 (hg.2.2.1 t ht));have et:Lu s a.a8=t:=by unfold Lu;rw [e1,Option.getD_some,e2];rfl
  rw [et,if_neg (by simp),Bool.true_and];by_cases h0:a.bc=0
  ·rw [if_neg (by simp [h0]),if_pos (by simpa using h0),if_pos h0,e1,Aa,e2,Aa,iV (by omega) hA];rfl
  ·rw [if_neg h0];by_cases h1:a.bc=1∨a.bc= -1
   ·rw [if_pos (by simpa using h1),if_pos h1];rfl
   ·rw [if_neg (by simpa using h1),if_neg h1,if_neg (by simpa using h0)]
theorem zye {s:Am} {a:BN} (hg:Cr s) (hA:F6 a.bp):To s a=some (QU s (Lu s a.a8) a):=by
 have h3:=BW.1 hg.2.2.2.2.1;have w:IntKind.i64.wrap ((s.a7.length:Int)-1)=(s.a7.length:Int)-1:=Bh (by omega) (by omega);unfold To QU;rw [w,IG,Aa];cases hv:BL a.a8 0 ((s.a7.length:Int)-1)with
 |false=>rfl
 |true=>
  obtain⟨y,t,e1,e2,ht,_,_⟩:=Zb hg (BW.1 hv);have hc:=Ij (G9 (hg.2.2.1 t ht));have et:Lu s a.a8=t:=by unfold Lu;rw [e1,Option.getD_some,e2];rfl
  have KP:J7 s a.a8=some t:=by unfold J7;rw [e1,Aa,e2];rfl
  rw [et,if_neg (by simp),Bool.true_and];by_cases h0:a.bc=0
  ·rw [if_pos (by simpa using h0),if_pos h0,KP,Aa,zxB (by omega) hA];rfl
  ·rw [if_neg (by simpa using h0),if_neg h0];by_cases h1:a.bc=1
   ·rw [if_pos (by simpa using h1),if_pos (.inl h1)];rfl
   ·rw [if_neg (by simpa using h1)];by_cases h2:a.bc= -1
    ·rw [if_pos (by simpa using h2),if_pos (.inr h2)];rfl
    ·rw [if_neg (by simpa using h2),if_neg (by simp [h1,h2])]
theorem zES {s:Am} {a:BN} (hg:Cr s) (h:QU s (Lu s a.a8) a=true):NY s a:=by
 unfold QU at h;rw [Ae]at h;have hv:=BW.1 h.1;obtain⟨y,t,e1,e2,ht,_,_⟩:=Zb hg hv;have et:Lu s a.a8=t:=by unfold Lu;rw [e1,Option.getD_some,e2];rfl
 have h2:=h.2;rw [et]at h2;by_cases h0:a.bc=0
 ·rw [if_pos h0]at h2;exact⟨hv, .inl h0,fun _=>⟨y,t,e1,e2,ht,h2⟩⟩
 ·rw [if_neg h0]at h2;by_cases h1:a.bc=1∨a.bc= -1
  ·exact⟨hv, .inr h1,fun h=>absurd h h0⟩
  ·rw [if_neg h1]at h2;cases h2
theorem tW {s:Am} {a:BN} (hg:Cr s) (hA:F6 a.bp): ∃r,TP s a=some r∧To s a=some r∧(r=true→NY s a):=
 ⟨_,zxA hg hA,zye hg hA,zES hg⟩
structure GA (s r:Am):Prop where
 bw:Cr r
 small:Dp r
 name:r.ab=s.ab
 ways:r.ah=s.ah
 at_:r.a7.length=s.a7.length
theorem YL {s:Am} {a:BN} (hS:Dp s) (hg:Cr s) (hA:F6 a.bp) (Ej:NY s a): ∃r:Am × Bool,Ju s a=some r∧Oe s a=some r∧GA s r.1:=by
 obtain⟨y,t,e1,e2,ht,Ib,hy1⟩:=Zb hg Ej.srv;have h1:=hg.1;have h4:=hg.2.1;have w:IntKind.i64.wrap ((s.ah.length:Int)-1)=(s.ah.length:Int)-1:=Bh (by omega) (by omega);unfold Ju Oe;rw [UW hS,xO hS,Aa,Aa,w];by_cases h0:a.bc=0
 ·obtain⟨y',t',q1,q2,q3,JR⟩:=Ej.act h0;rw [e1]at q1;cases q1;rw [e2]at q2;cases q2;have hI:=hg.2.2.1 t ht;have E4:=G9 hI;have hc:=Ij E4;have O8:=hS.way t ht;have Vw:=pJ hA JR;have hR:=hg.2.2.2.2.2.2;obtain⟨ol,oo⟩:=xH E4 JR;have KP:J7 s a.a8=some t:=by
   unfold J7;rw [e1,Aa,e2];rfl
  have hD:QB t s.ao a.bp=some ((Ef s.ao (Fg t a.bp)).1,(Ef s.ao (Fg t a.bp)).2,true):=by
   have Zo:Qk t a.bp=some true:=by unfold Qk;rw [ME O8,Aa,E4,if_pos rfl,iV (by omega) hA,JR];rfl
   unfold QB;rw [Zo,Aa,if_pos rfl,MG hS.store,Aa,hR,if_neg (by simp),pQ O8 E4 Vw,Aa,qM ol oo hR];rfl
  have Ec:=zCd ol oo hR;rw [if_neg (by simp [h0]),if_neg (by simp [h0]),e1,Aa,e2,Aa,hD,KP,Aa,Aa,zED O8 E4 Vw,Aa,zAw ol oo hR,Aa];refine⟨_,rfl,rfl,⟨⟨hg.1,hg.2.1,hg.2.2.1,hg.2.2.2.1,hg.2.2.2.2.1,hg.2.2.2.2.2.1,Ec⟩,⟨hS.name,hS.ways,hS.way,hS.at_, ?_⟩,rfl,rfl,rfl⟩⟩;have hr:=(OC Ec).1;have NH:=hr.len;exact gK (by show(Ef s.ao (Fg t a.bp)).1.length≤2000000;omega) hr.bw
 ·have Fo:a.bc=1∨a.bc= -1:=by rcases Ej.step with h|h|h;exact absurd h h0;exact .inl h;exact .inr h
  have w2:IntKind.i64.wrap (y+a.bc)=y+a.bc:=Bh (by omega) (by omega);rw [if_pos (by simpa using h0),if_pos (by simpa using h0)];simp only [e1,Aa,w2,Hd,IG];cases hv:BL (y+a.bc) 0 ((s.ah.length:Int)-1)with
  |false=>exact⟨_,rfl,rfl,⟨hg,hS,rfl,rfl,rfl⟩⟩
  |true=>
   have C4:=BW.1 hv;refine⟨_,rfl,rfl,⟨⟨hg.1,hg.2.1,hg.2.2.1,hg.2.2.2.1, ?_,fun z hz=> ?_,hg.2.2.2.2.2.2⟩,⟨hS.name,hS.ways,hS.way, ?_,hS.store⟩,rfl,rfl,List.length_set⟩⟩
   ·show BL (((s.a7.set (a.a8).toNat (y+a.bc)).length:Nat):Int) 1 3=true;rw [List.length_set];exact hg.2.2.2.2.1
   ·rcases List.mem_or_eq_of_mem_set hz with hz|rfl
    ·exact hg.2.2.2.2.2.1 z hz
    ·exact C4
   ·show(s.a7.set (a.a8).toNat (y+a.bc)).length≤2000000;rw [List.length_set];exact hS.at_
def MW:Am:=⟨[], [], [], []⟩
def D7 (l:List Int):Bool:=l.all fun x=>l.all fun y=> !decide (x-y>1)
theorem lB {l:List Int} (hl:l.length≤2000000) (hb: ∀y∈l,0≤y∧y≤3):TW l=some (D7 l):=by
 unfold TW;have BZ: ∀(i:Nat) (hi:i<l.length),AA (fun s:Int=>Ok l i l[i] s) 0=some (if(l.all fun y=> !decide (l[i]-y>1))=true then .inl ((i+1:Nat):Int)else .inr (some false)):=by
  intro i hi;have hx:=hb _ (List.getElem_mem hi);rw [La (xs:=l) (body:=fun s:Int=>Ok l i l[i] s) (fun y=> !decide (l[i]-y>1)) (.inr (some false)) (eU i) (fun j hj=>by
   have hy:=hb _ (List.getElem_mem hj);have w:IntKind.i64.wrap (l[i]-l[j])=l[i]-l[j]:=Bh (by omega) (by omega);show Ok l i l[i] j=_;unfold Ok;rw [if_pos (by simpa using hj),AO hj,Aa,w,Bi hj (by omega)];cases decide (l[i]-l[j]>1)<;>rfl) (by
   show Ok l i l[i] l.length=_;unfold Ok;rw [if_neg (by simp)])]
  unfold eU;rw [Bi hi (by omega)];split<;>rfl
 rw [La (xs:=l) (body:=fun s:Int=>PR l s) (fun x=>l.all fun y=> !decide (x-y>1)) false (some true) (fun i hi=>by
  show PR l i=_;unfold PR;rw [if_pos (by simpa using hi),AO hi,Aa];exact BZ i hi) (by
  show PR l l.length=_;unfold PR;rw [if_neg (by simp)])]
 unfold D7;cases(l.all fun x=>l.all fun y=> !decide (x-y>1))<;>rfl
def KZ (a:Int) (l:List Int):Int:=l.foldl (fun m y=>bif decide (y>m)then y else m) a
def KX (a:Int) (l:List Int):Int:=l.foldl (fun m y=>bif decide (y<m)then y else m) a
theorem zL: ∀(l:List Int) (a:Int),KZ a l∈a::l∧ ∀x∈a::l,x≤KZ a l
 | [],a=>by simp [KZ]
 |y::l,a=>by
  obtain⟨h1,h2⟩:=zL l (bif decide (y>a)then y else a);have e:KZ a (y::l)=KZ (bif decide (y>a)then y else a) l:=rfl;rw [e];have ha:a≤(bif decide (y>a)then y else a)∧y≤(bif decide (y>a)then y else a):=by
   by_cases h:y>a
   ·rw [decide_eq_true h];exact⟨by simp;omega,by simp⟩
   ·rw [decide_eq_false h];exact⟨by simp,by simp;omega⟩
  have hm:=h2 _ (List.mem_cons_self);refine⟨?_,fun x hx=> ?_⟩
  ·rcases Af.1 h1 with h|h
   ·rw [h];by_cases hc:y>a
    ·rw [decide_eq_true hc];simp
    ·rw [decide_eq_false hc];simp
   ·simp [h]
  ·rcases Af.1 hx with rfl|hx
   ·omega
   ·rcases Af.1 hx with rfl|hx
    ·omega
    ·exact h2 x (by simp [hx])
theorem yX: ∀(l:List Int) (a:Int),KX a l∈a::l∧ ∀x∈a::l,KX a l≤x
 | [],a=>by simp [KX]
 |y::l,a=>by
  obtain⟨h1,h2⟩:=yX l (bif decide (y<a)then y else a);have e:KX a (y::l)=KX (bif decide (y<a)then y else a) l:=rfl;rw [e];have ha:(bif decide (y<a)then y else a)≤a∧(bif decide (y<a)then y else a)≤y:=by
   by_cases h:y<a
   ·rw [decide_eq_true h];exact⟨by simp;omega,by simp⟩
   ·rw [decide_eq_false h];exact⟨by simp,by simp;omega⟩
  have hm:=h2 _ (List.mem_cons_self);refine⟨?_,fun x hx=> ?_⟩
  ·rcases Af.1 h1 with h|h
   ·rw [h];by_cases hc:y<a
    ·rw [decide_eq_true hc];simp
    ·rw [decide_eq_false hc];simp
   ·simp [h]
  ·rcases Af.1 hx with rfl|hx
   ·omega
   ·rcases Af.1 hx with rfl|hx
    ·omega
    ·exact h2 x (by simp [hx])
theorem zFf {l:List Int} {a:Int} (hl:l.length≤2000000):Wx (a::l)=some (KZ a l):=by
 have key: ∀(n q:Nat) (m:Int),q+n=(a::l).length→AA (fun s:Int × Int=>Ob (a::l) s.1 s.2) (m,(q:Int))=some (KZ m ((a::l).drop q)):=by
  intro n
  induction n with
  |zero=>intro q m hq;rw [List.drop_eq_nil_of_le (by omega)];refine ED ?_;show Ob (a::l) m q=_;unfold Ob;rw [if_neg (by rw [decide_eq_true_eq];omega)];rfl
  |succ n ih=>
   intro q m hq;have Aq:q<(a::l).length:=by omega
   have Dj:(a::l).length=l.length+1:=Ar;have e:Ob (a::l) m q=some (.inl ((bif decide ((a::l)[q]>m)then(a::l)[q]else m),((q+1:Nat):Int))):=by unfold Ob;rw [if_pos (decide_eq_true (by omega)),AO Aq,Aa,Bi Aq (by omega)]
   rw [E9 (body:=fun s:Int × Int=>Ob (a::l) s.1 s.2) e,ih (q+1) _ (by omega),List.drop_eq_getElem_cons Aq];rfl
 unfold Wx;rw [if_neg (by rw [decide_eq_true_eq,Ar];omega),show getI (a::l) 0=some a from rfl,Aa];exact key l.length 1 a (by rw [Ar];omega)
theorem zFp {l:List Int} {a:Int} (hl:l.length≤2000000):Wz (a::l)=some (KX a l):=by
 have key: ∀(n q:Nat) (m:Int),q+n=(a::l).length→AA (fun s:Int × Int=>Oa (a::l) s.1 s.2) (m,(q:Int))=some (KX m ((a::l).drop q)):=by
  intro n
  induction n with
  |zero=>intro q m hq;rw [List.drop_eq_nil_of_le (by omega)];refine ED ?_;show Oa (a::l) m q=_;unfold Oa;rw [if_neg (by rw [decide_eq_true_eq];omega)];rfl
  |succ n ih=>
   intro q m hq;have Aq:q<(a::l).length:=by omega
   have Dj:(a::l).length=l.length+1:=Ar;have e:Oa (a::l) m q=some (.inl ((bif decide ((a::l)[q]<m)then(a::l)[q]else m),((q+1:Nat):Int))):=by unfold Oa;rw [if_pos (decide_eq_true (by omega)),AO Aq,Aa,Bi Aq (by omega)]
   rw [E9 (body:=fun s:Int × Int=>Oa (a::l) s.1 s.2) e,ih (q+1) _ (by omega),List.drop_eq_getElem_cons Aq];rfl
 unfold Wz;rw [if_neg (by rw [decide_eq_true_eq,Ar];omega),show getI (a::l) 0=some a from rfl,Aa];exact key l.length 1 a (by rw [Ar];omega)
theorem xU {s:Am} (hl:s.a7.length≤2000000) (h1:1≤s.a7.length) (hb: ∀y∈s.a7,0≤y∧y≤3):PN s=some (D7 s.a7):=by
 unfold PN;generalize s.a7=l at hl h1 hb;cases l with
 |nil=>simp at h1
 |cons a l=>
  rw [Ar]at hl;rw [zFf (by omega),zFp (by omega),Aa,Aa];obtain⟨x1,x2⟩:=zL l a;obtain⟨n1,n2⟩:=yX l a;have b1:=hb _ x1;have b2:=hb _ n1;have w:IntKind.i64.wrap (KZ a l-KX a l)=KZ a l-KX a l:=Bh (by omega) (by omega);rw [w];congr 1;unfold D7;rw [Bool.eq_iff_iff];simp only [decide_eq_true_eq,AG,Bool.not_eq_true',decide_eq_false_iff_not];constructor
  ·intro h x hx y hy;have:=x2 x hx;have:=n2 y hy;omega
  ·intro h;have:=h _ x1 _ n1;omega
theorem zBr {s:Am} {a:BN} (hS:Dp s) (hg:Cr s) (hA:F6 a.bp) (Ej:NY s a): ∃r,Qz s a=some r∧Xa s a=some r:=by
 obtain⟨r,k1,k2,hn⟩:=YL hS hg hA Ej;unfold Qz Xa;rw [k1,k2,Aa,Aa];by_cases h:r.2=true
 ·rw [if_pos h,if_pos h];have h3:=BW.1 hn.bw.2.2.2.2.1;have hw:=hn.bw.2.1;have hb: ∀y∈r.1.a7,0≤y∧y≤3:=fun y hy=>by
   have:=hn.bw.2.2.2.2.2.1 y hy;omega
  have hl:=hn.small.at_;rw [lB hl hb,xU hl (by omega) hb,Aa,Aa];obtain⟨q,q1,q2⟩:=zy5 hn.small hn.bw;by_cases hc:D7 r.1.a7=true
  ·rw [if_pos hc,if_pos hc,q1,q2];exact⟨q,rfl,rfl⟩
  ·rw [if_neg hc,if_neg hc];exact⟨_,rfl,rfl⟩
 ·rw [if_neg h,if_neg h];exact⟨_,rfl,rfl⟩
theorem IK {t:Ad} {n:Ai} (h:BR t n=true):Fe t n (EV t n)∧BG t n=(EV t n).ak∧EV t n∈t.ae∧0≤BG t n∧BG t n≤3∧AZ t=true:=by obtain⟨x,hx,e,h0,h3,hg⟩:=ML h;rw [pG hx];exact⟨hx,e,kY hx.at_,by omega,by omega,hg⟩
theorem lR {n:Ai}: ∀l:List Au,Bp (fun x:Au=>x.ab==n) l=Bp (· ==n) (l.map (·.ab))
 | []=>rfl
 |x::l=>by rw [List.map_cons,MA,MA,lR l]
theorem zDa (t:Ad) (n:Ai) (k c:Int):BP (CL t k c) n=BP t n:=by unfold BP;rw [lR,lR,Ue]
theorem oV {t:Ad} {n:Ai} {c:Int} (h:BR t n=true):EV (CL t (BP t n) c) n={EV t n with ak:=c}:=by
 have hx:=(IK h).1;have hl:=(MK hx.at_).2.2;have h0:=(MK hx.at_).1;have hk:(BP t n).toNat<t.ae.length:=by have:Bp (fun y:Au=>y.ab==n) t.ae=BP t n:=rfl;rw [this]at hl h0;omega
 unfold EV;rw [zDa];unfold CL;dsimp only;rw [List.getElem?_set_self hk];rfl
theorem zDD {t:Ad} {n:Ai} {c:Int} (h:BR t n=true):BG (CL t (BP t n) c) n=c:=by have:BG (CL t (BP t n) c) n=(EV (CL t (BP t n) c) n).ak:=rfl;rw [this,oV h]
theorem zDW {t:Ad} {n:Ai} {b:Int} (h:BR t n=true):(way t (BP t n) (BG t n) b).map (fun w=>BG w n)=BG t n::EI 3 (BG t n) b:=by
 unfold way;rw [List.map_cons,List.map_map];congr 1
 conv=>rhs;rw [←List.map_id (EI 3 (BG t n) b)]
 exact List.map_congr_left fun c _=>zDD h
def pU (a b i j:Nat):Bool:=match((a:Int)::EI 3 a b)[i]?,((a:Int)::EI 3 a b)[j]? with
 |some x,some y=>decide (x≤y+1)
 |_,_=>true
theorem zBS: ∀a b i j:Fin 4,i.val≤j.val+1→j.val≤i.val+1→pU a.val b.val i.val j.val=true:=by decide
theorem zx9 {a b:Int} (O9:0≤a) (RY:a≤3) (Hp:0≤b) (FH:b≤3) {i j:Nat} (hi:i<4) (hj:j<4) (h1:i≤j+1) (h2:j≤i+1) {x y:Int}
  (hx:(a::EI 3 a b)[i]?=some x) (hy:(a::EI 3 a b)[j]?=some y):x≤y+1:=by
 have h:=zBS ⟨a.toNat,by omega⟩ ⟨b.toNat,by omega⟩ ⟨i,hi⟩ ⟨j,hj⟩ h1 h2;unfold pU at h;dsimp only at h;rw [Int.toNat_of_nonneg O9,Int.toNat_of_nonneg Hp,hx,hy]at h;simpa using h
theorem zFk {s:Am} (hg:Cr s) {y:Int} (h0:0≤y) (h1:y≤(s.ah.length:Int)-1): ∃t,getI s.ah y=some t∧t∈s.ah∧y.toNat<4∧
  (BG (C5 s) s.ab::EI 3 (BG (C5 s) s.ab) (BG (HN s) s.ab))[y.toNat]?=some (BG t s.ab):=by
 obtain⟨t,e,ht,e2⟩:=IJ (xs:=s.ah) h0 (by omega);have hI:=hg.2.2.1 _ (OD (s:=s) hg.1).2;have h4:=hg.2.1;refine⟨t,e,ht,by omega, ?_⟩;rw [←zDW hI,List.getElem?_map];have hw:way (C5 s) (BP (C5 s) s.ab) (BG (C5 s) s.ab) (BG (HN s) s.ab)=s.ah:=hg.2.2.2.1.symm;rw [hw,e2];rfl
theorem jJ {s:Am} (hg:Cr s) {u:Int} (h:u∈Q0 s): ∃y t,y∈s.a7∧getI s.ah y=some t∧t∈s.ah∧u=BG t s.ab∧y.toNat<4∧0≤y∧
  (BG (C5 s) s.ab::EI 3 (BG (C5 s) s.ab) (BG (HN s) s.ab))[y.toNat]?=some u:=by
 obtain⟨y,hy,rfl⟩:=List.mem_map.1 h;have hb:=hg.2.2.2.2.2.1 y hy;obtain⟨t,e,ht,h4,e2⟩:=zFk hg hb.1 hb.2;refine⟨y,t,hy,e,ht, ?_,h4,hb.1, ?_⟩<;>rw [e]
 ·rfl
 ·exact e2
theorem zvC {s:Am} (hg:Cr s) (hc:D7 s.a7=true): ∀p∈Q0 s,∀q∈Q0 s,p≤q+1:=by intro p hp q hq;obtain⟨y,_,hy,_,_,_,y4,y0,e1⟩:=jJ hg hp;obtain⟨z,_,hz,_,_,_,z4,z0,e2⟩:=jJ hg hq;unfold D7 at hc;have c1:=AG.1 (AG.1 hc y hy) z hz;have c2:=AG.1 (AG.1 hc z hz) y hy;simp only [Bool.not_eq_true',decide_eq_false_iff_not]at c1 c2;have f:=IK (hg.2.2.1 _ (OD (s:=s) hg.1).2);have l:=IK (hg.2.2.1 _ (kW (s:=s) hg.1 hg.2.1).2);exact zx9 f.2.2.2.1 f.2.2.2.2.1 l.2.2.2.1 l.2.2.2.2.1 y4 z4 (by omega) (by omega) e1 e2
theorem zz8 {s:Am} (hg:Cr s): ∀p∈Q0 s,0≤p∧p≤3:=by intro p hp;obtain⟨_,t,_,_,ht,rfl,_⟩:=jJ hg hp;have f:=IK (hg.2.2.1 t ht);exact⟨f.2.2.2.1,f.2.2.2.2.1⟩
theorem zDP {st:List Int} (h: ∀p∈st,0≤p∧p≤3) (hn: ∀p∈st,∀q∈st,p≤q+1) {u:Int} (hu:u∈st):J4 st=0∧u≤1∨J4 st=1∧1≤u∨J4 st=2∧2≤u:=by
 have h1:=h u hu;unfold J4;by_cases k3:st.contains 3=true
 ·rw [if_pos k3];have:=hn 3 (by simpa using k3) u hu;omega
 ·rw [if_neg k3];by_cases k0:st.contains 0=true
  ·rw [if_pos k0];have:=hn u hu 0 (by simpa using k0);omega
  ·rw [if_neg k0];have:u≠0:=fun e=>k0 (by rw [←e];simpa using hu);omega
theorem vC {t t':Ad} {n:Ai} {x x':Au} {lv:Int} {st:List Ac} (h1:t.ab=t'.ab) (h2:t.al=t'.al) (h3:x.bh=x'.bh):holds t n x lv st=holds t' n x' lv st:=by cases t;cases t';cases x;cases x';dsimp only at h1 h2 h3;subst h1;subst h2;subst h3;rfl
theorem zzN {s:Am} (hg:Cr s) {t:Ad} (ht:t∈s.ah):t.ab=(C5 s).ab∧t.al=(C5 s).al∧(EV t s.ab).bh=(EV (C5 s) s.ab).bh:=by
 have hI:=hg.2.2.1 _ (OD (s:=s) hg.1).2;rw [hg.2.2.2.1]at ht;rcases Af.1 ht with rfl|ht
 ·exact⟨rfl,rfl,rfl⟩
 ·obtain⟨c,_,rfl⟩:=List.mem_map.1 ht;refine⟨rfl,rfl, ?_⟩;rw [oV hI]
theorem zBT {s:Am} {a:BN} (hS:Dp s) (hg:Cr s) (hA:F6 a.bp) (Ej:NY s a) (h0:a.bc=0): ∃y t,getI s.a7 a.a8=some y∧getI s.ah y=some t∧t∈s.ah∧Hb t a.bp=true∧
  Ju s a=some (⟨s.ab,s.ah,s.a7,(Ef s.ao (Fg t a.bp)).1⟩,(Ef s.ao (Fg t a.bp)).2):=by
 obtain⟨y,t,e1,e2,ht,JR⟩:=Ej.act h0;have hI:=hg.2.2.1 t ht;have E4:=G9 hI;have hc:=Ij E4;have O8:=hS.way t ht;have Vw:=pJ hA JR;have hR:=hg.2.2.2.2.2.2;obtain⟨ol,oo⟩:=xH E4 JR;refine⟨y,t,e1,e2,ht,JR, ?_⟩;have hD:QB t s.ao a.bp=some ((Ef s.ao (Fg t a.bp)).1,(Ef s.ao (Fg t a.bp)).2,true):=by
  have Zo:Qk t a.bp=some true:=by unfold Qk;rw [ME O8,Aa,E4,if_pos rfl,iV (by omega) hA,JR];rfl
  unfold QB;rw [Zo,Aa,if_pos rfl,MG hS.store,Aa,hR,if_neg (by simp),pQ O8 E4 Vw,Aa,qM ol oo hR];rfl
 unfold Ju;rw [UW hS,Aa,if_neg (by simp [h0]),e1,Aa,e2,Aa,hD];rfl
theorem zFn {s:Am} {a:BN} (hS:Dp s) (hg:Cr s) (hA:F6 a.bp) (Ej:NY s a) {r:Am × Bool} (hr:Ju s a=some r):Qz s a=some (r.2&&(D7 r.1.a7&&Gy r.1)):=by
 obtain⟨r',k1,k2,hn⟩:=YL hS hg hA Ej;rw [hr]at k1;cases k1;unfold Qz;rw [hr,Aa];by_cases h:r.2=true
 ·rw [if_pos h];have hw:=hn.bw.2.1;have hb: ∀y∈r.1.a7,0≤y∧y≤3:=fun y hy=>by
   have:=hn.bw.2.2.2.2.2.1 y hy;omega
  rw [lB hn.small.at_ hb,Aa,(kQ hn.small hn.bw).1,h];cases D7 r.1.a7<;>rfl
 ·rw [if_neg h];rw [Bool.not_eq_true]at h;rw [h];rfl
theorem zyc {s:Am} {a:BN} (hS:Dp s) (hg:Cr s) (hA:F6 a.bp) (Ej:NY s a) {r:Am × Bool} (hr:Ju s a=some r) (hh:Gy s=true) (hc:D7 s.a7=true)
  (hm:a.bc≠0→D7 r.1.a7=true∧Gy r.1=true):D7 r.1.a7=true∧Gy r.1=true:=by
 by_cases h0:a.bc=0
 ·obtain⟨y,t,e1,e2,ht,JR,e⟩:=zBT hS hg hA Ej h0;rw [hr]at e;cases e;refine⟨hc, ?_⟩;have hI:=hg.2.2.1 t ht;have f:=IK hI;have hu:BG t s.ab∈Q0 s:=by
   refine List.mem_map.2 ⟨y,kY e1, ?_⟩;rw [e2];rfl
  have hk:=zDP (zz8 hg) (zvC hg hc) hu;rw [f.2.1]at hk;have A:=zEa f.2.2.2.2.2 f.2.2.1 f.1.name JR;obtain⟨w1,w2,w3⟩:=zzN hg ht;unfold Gy at hh;rw [←vC w1 w2 w3]at hh;have hd:=zyn A hg.2.2.2.2.2.2 hk hh;rw [vC w1 w2 w3]at hd;exact hd
 ·exact hm h0
def MZ (t:Ad) (st:List Ac):List Ac:=st.filter (CS t)
theorem Mw {t:Ad} {st:List Ac} {w:Ac}:w∈MZ t st↔w∈st∧CS t w=true:=List.mem_filter
theorem MI (t:Ad) (st:List Ac):rows t st=(MZ t st).map Cy:=rfl
theorem Oz {t:Ad} {st:List Ac} (h:Dc st):Dc (MZ t st):=DO.filter h _
theorem zug {l:List Ac} {w:Ac} (h: ∀y∈l,y.af≠w.af):(BA wk w l).length=l.length+1:=by
 induction l with
 |nil=>rfl
 |cons y l ih=>
  rw [BA];split
  ·rfl
  ·split
   ·rename_i e;exact absurd e.symm (h y (by simp))
   ·rw [Ar,ih fun z hz=>h z (by simp [hz]),Ar]
theorem zuZ {l:List Ac} {w:Ac} (hl:Dc l) (h: ∃y∈l,y.af=w.af):(BA wk w l).length=l.length:=by
 induction l with
 |nil=>obtain⟨y,hy,_⟩:=h;simp at hy
 |cons y l ih=>
  obtain⟨r1,r2⟩:=Ur hl;obtain⟨z,hz,e⟩:=h;rw [BA];split
  ·rename_i hb;exfalso;rcases Af.1 hz with rfl|hz
   ·exact F9 hb e.symm
   ·exact F9 (II hb (r1 z hz)) e.symm
  ·split
   ·rfl
   ·rename_i A9;rw [Ar,Ar,ih r2];rcases Af.1 hz with rfl|hz
    ·exact absurd e.symm A9
    ·exact⟨z,hz,e⟩
theorem zvH {l:List Ac} {k:Ai} (hl:Dc l) (h: ∃y∈l,y.af=k):(l.filter fun w=>w.af !=k).length+1=l.length:=by
 induction l with
 |nil=>obtain⟨y,hy,_⟩:=h;simp at hy
 |cons y l ih=>
  obtain⟨r1,r2⟩:=Ur hl;rw [List.filter_cons];by_cases hy:y.af=k
  ·rw [if_neg (by simp [hy]),List.filter_eq_self.2 fun z hz=>by
    have:=F9 (r1 z hz);rw [hy]at this;simpa using fun e=>this e.symm]
   rfl
  ·rw [if_pos (by simpa using hy),Ar,Ar];obtain⟨z,hz,e⟩:=h;rcases Af.1 hz with rfl|hz
   ·exact absurd e hy
   ·have:=ih r2 ⟨z,hz,e⟩;omega
structure S8 (t:Ad) (a:A2) (st st':List Ac):Prop where
 act:EK t a
 n8:U5 t a st st'
 cc:Dc st
 nb:Dc st'
 gone: ∀w∈st,w.bb=false
 ahead:Wa t a st
section
variable {t:Ad} {a:A2} {st st':List Ac} (H:S8 t a st st')
include H
theorem S8.ij (k:a.aj≠2):MZ t st'=BA wk (A6 t a.bj) (MZ t st):=by
 refine DO.ext (key:=wk) (Oz H.nb) (Ut (Oz H.cc)) fun y=> ?_;rw [UC (Oz H.cc),Mw,Mw,H.n8 y];have AS:=H.act.jd k;constructor
 ·rintro⟨⟨hg,h|⟨h1,h2⟩⟩,h3⟩
  ·exact .inl (H.act.dw h h3).1
  ·exact .inr ⟨⟨h1,h3⟩,fun e=>h2 _ AS e.symm⟩
 ·rintro(rfl|⟨⟨h1,h2⟩,h3⟩)
  ·exact⟨⟨rfl, .inl AS⟩,cK H.act.tab (H.act.new k)⟩
  ·refine⟨⟨H.gone y h1, .inr ⟨h1,fun w hw e=> ?_⟩⟩,h2⟩;have NO:=H.act.fm hw h2 e;apply h3;rw [←e];by_cases k1:a.aj=1
   ·exact H.act.gl k1 NO
   ·have k3:a.aj=3:=by rcases H.act.kind with h|h|h;exact absurd h k1;exact absurd h k;exact h
    show w.af=(A6 t a.bj).af;rw [H.act.fb k1 NO,Jy,Jy,H.act.same k3]
theorem S8.ju (k:a.aj=2):MZ t st'=(MZ t st).filter fun w=>w.af !=(A6 t a.bd).af:=by
 refine DO.ext (key:=wk) (Oz H.nb) (DO.filter (Oz H.cc) _) fun y=> ?_;rw [List.mem_filter,Mw,Mw,H.n8 y];constructor
 ·rintro⟨⟨hg,h|⟨h1,h2⟩⟩,h3⟩
  ·exact absurd k (H.act.dw h h3).2
  ·obtain⟨u,u1,u2⟩:=H.act.fq (show a.aj≠1 by omega);refine⟨⟨h1,h3⟩, ?_⟩;have:=h2 u u1;rw [u2]at this;simpa using fun e=>this e.symm
 ·rintro⟨⟨h1,h2⟩,h3⟩;refine⟨⟨H.gone y h1, .inr ⟨h1,fun w hw e=> ?_⟩⟩,h2⟩;have NO:=H.act.fm hw h2 e;have:=H.act.fb (show a.aj≠1 by omega) NO;rw [e]at this;simp [this]at h3
theorem S8.fresh {r:AI} (h1:r∈rows t st') (h2:r∉rows t st):r=a.bj∧a.aj≠2:=by
 rw [MI,List.mem_map]at h1;obtain⟨q,hq,rfl⟩:=h1;obtain⟨Fy,Ed⟩:=Mw.1 hq;obtain⟨_,h|⟨h3,_⟩⟩:=(H.n8 q).1 Fy
 ·obtain⟨e,k⟩:=H.act.dw h Ed;exact⟨by rw [e,Ux H.act.tab (H.act.new k)],k⟩
 ·exact absurd (by rw [MI,List.mem_map];exact⟨q,Mw.2 ⟨h3,Ed⟩,rfl⟩) h2
theorem S8.rows_len:(a.aj=1→(rows t st').length=(rows t st).length+1)∧(a.aj=2→(rows t st').length+1=(rows t st).length)∧(a.aj=3→(rows t st').length=(rows t st).length):=by
 have hold:a.aj≠1→A6 t a.bd∈MZ t st:=fun k=>Mw.2 ⟨H.ahead.2 k,cK H.act.tab (H.act.old k)⟩;refine⟨fun k=> ?_,fun k=> ?_,fun k=> ?_⟩
 ·rw [MI,MI,List.length_map,List.length_map,H.ij (by omega),zug fun y hy=>H.ahead.1 k y (Mw.1 hy).1]
 ·rw [MI,MI,List.length_map,List.length_map,H.ju k];exact zvH (Oz H.cc) ⟨_,hold (by omega),rfl⟩
 ·rw [MI,MI,List.length_map,List.length_map,H.ij (by omega)];refine zuZ (Oz H.cc) ⟨_,hold (by omega), ?_⟩;rw [Jy,Jy,H.act.same k]
end
theorem zR (t:Ad) (k c:Int) (j:Nat): ∃s,((CL t k c).ae[j]?).getD ⟨[],0,0⟩={((t.ae[j]?).getD ⟨[],0,0⟩)with ak:=s}∧(s=((t.ae[j]?).getD ⟨[],0,0⟩).ak∨s=c):=by
 unfold CL;dsimp only;rw [List.getElem?_set];split
 ·rename_i h;subst h;split
  ·exact⟨c,rfl, .inr rfl⟩
  ·rename_i h2;rw [List.getElem?_eq_none (by omega)];exact⟨0,rfl, .inl rfl⟩
 ·exact⟨_,rfl, .inl rfl⟩
theorem zA9 {t:Ad} {k c:Int} (h:AZ t=true) (hc:BL c 0 3=true):AZ (CL t k c)=true:=by
 have hl:(CL t k c).ae.length=t.ae.length:=by unfold CL;simp
 unfold AZ at h ⊢;simp only [Ae]at h ⊢;obtain⟨⟨⟨h1,h2⟩,h3⟩,h4⟩:=h;refine⟨⟨⟨h1,h2⟩,by rw [hl];exact h3⟩, ?_⟩;rw [hl];rw [AG]at h4 ⊢;intro i hi;have hq:=h4 i hi;unfold Hg at hq ⊢;obtain⟨s,e,hs⟩:=zR t k c i;obtain⟨s',e',_⟩:=zR t k c (i-1);dsimp only at hq ⊢;rw [e,e'];simp only [Ae]at hq ⊢;refine⟨⟨⟨hq.1.1.1,hq.1.1.2⟩, ?_⟩,hq.2⟩;rcases hs with rfl|rfl
 ·exact hq.1.2
 ·exact hc
theorem zB {t:Ad} {n:Ai} {c:Int} (h:BR t n=true) (hc:BL c 0 3=true):BR (CL t (BP t n) c) n=true:=by unfold BR at h ⊢;rw [Ae]at h ⊢;exact⟨zA9 h.1 hc,by rw [xB (n:=n) (Ue t (BP t n) c)];exact h.2⟩
theorem zzV: ∀(n:Nat) {c:An} {p:Ad × An},IL n c=some p→p.1.ae≠ []→Mh c=Tm p.2.ar p.2.bf p.2.au p.1.ab p.1.al p.1.ae:=by
 have stop: ∀{p:Ad × An},p.1.ae≠ []→AA (fun s:List Int × Int × Int × Ab × List (Ab) × List Au=>PG s.1 s.2.1 s.2.2.1 s.2.2.2.1 s.2.2.2.2.1 s.2.2.2.2.2) (p.2.ar,p.2.bf,p.2.au,p.1.ab,p.1.al,p.1.ae)=Tm p.2.ar p.2.bf p.2.au p.1.ab p.1.al p.1.ae:=by intro p hp;refine ED ?_;show PG p.2.ar p.2.bf p.2.au p.1.ab p.1.al p.1.ae=_;unfold PG;have:0<p.1.ae.length:=List.length_pos_iff.2 hp;rw [if_neg (by simp;omega)]
 intro n
 induction n with
 |zero=>intro c p h A9;unfold Mh;rw [show HD c=some p from h,Aa];exact stop A9
 |succ n ih=>
  intro c p h A9;unfold IL at h;obtain⟨q,hq,h⟩:=IP h;split at h
  ·rename_i h0;have he:q.1.ae= []:=List.eq_nil_of_length_eq_zero h0;obtain⟨r,hr⟩: ∃r,HD q.2=some r:=by
    cases n with
    |zero=>exact⟨p,h⟩
    |succ n=>unfold IL at h;obtain⟨r,hr,_⟩:=IP h;exact⟨r,hr⟩
   rw [←ih h A9];unfold Mh;rw [hq,Aa,hr,Aa];refine E9 ?_;show PG q.2.ar q.2.bf q.2.au q.1.ab q.1.al q.1.ae=_;unfold PG;rw [if_pos (by rw [he];rfl),show(⟨q.2.ar,q.2.bf,q.2.au⟩:An)=q.2 from rfl,hr,Aa]
  ·cases h;unfold Mh;rw [hq,Aa];exact stop A9
structure Hm (n:Nat) (s:Am):Prop where
 name:s.ab.length≤10
 ways:s.ah.length≤4+n
 least:n=0→1≤s.ah.length
 way: ∀t∈s.ah,AZ t=true
 at_:s.a7.length≤3+n
 od:s.ao.length≤80+n
 store:JH s.ao
theorem Hm.small {n:Nat} {s:Am} (h:Hm n s) (hn:n≤10):Dp s:=⟨by have:=h.name;omega,by have:=h.ways;omega,fun t ht=>Ih (h.way t ht),by have:=h.at_;omega,h.store.small⟩
theorem zyU {a b:Int} (O9:0≤a) (RY:a≤3) (Hp:0≤b) (FH:b≤3):(a=b∧EI 3 a b= [])∨ ∃l,EI 3 a b=l++ [b]:=by
 have h1:a=0∨a=1∨a=2∨a=3:=by omega
 have h2:b=0∨b=1∨b=2∨b=3:=by omega
 rcases h1 with rfl|rfl|rfl|rfl<;>rcases h2 with rfl|rfl|rfl|rfl<;>first|exact .inl ⟨rfl,rfl⟩|exact .inr ⟨[],rfl⟩|exact .inr ⟨[_],rfl⟩|exact .inr ⟨[_,_],rfl⟩
theorem xP {t:Ad} {n:Ai} {b:Int} {ats:List Int} {l:List Ac} (h:BR t n=true) (Hp:0≤b) (FH:b≤3):way t (BP t n) (BG t n) b=DG ⟨n,way t (BP t n) (BG t n) b,ats,l⟩:=by
 have f:=IK h;have key:BG (HN ⟨n,way t (BP t n) (BG t n) b,ats,l⟩) n=b:=by
  unfold HN way;rcases zyU f.2.2.2.1 f.2.2.2.2.1 Hp FH with⟨e1,e2⟩|⟨k,e2⟩
  ·rw [e2];exact e1
  ·rw [e2];have:((t::(k++ [b]).map (CL t (BP t n)))[(t::(k++ [b]).map (CL t (BP t n))).length-1]?).getD L5=CL t (BP t n) b:=by
    simp
   rw [this];exact zAm h
 unfold DG;rw [key];rfl
theorem lP {t:Ad} {n:Ai} {b:Int} (h:BR t n=true) (Hp:0≤b) (FH:b≤3): ∀w∈way t (BP t n) (BG t n) b,BR w n=true:=by
 intro w hw;have f:=IK h;rcases Af.1 hw with rfl|hw
 ·exact h
 ·obtain⟨c,hc,rfl⟩:=List.mem_map.1 hw;have:=lM 3 f.2.2.2.1 f.2.2.2.2.1 Hp FH c hc;exact zB h (BW.2 this)
theorem zv6 {t:Ad} {n:Ai} {stage srv:Int} {l:List Ac} (h:BR t n=true) (hn:n.length≤10) (Pj:0≤stage) (ET:stage≤3) (h1:1≤srv) (h2:srv≤3) (hl:JE l):
  Oo t n stage srv l=some (if D5 l=true then(⟨n,way t (BP t n) (BG t n) stage,List.replicate srv.toNat 0,l⟩,true)else(⟨[], [], [], []⟩,false)):=by
 have hg:=G9 h;have hS:=Ih hg;have f:=IK h;have hk:Bp (fun x:Au=>x.ab==n) t.ae≥0:=by unfold BR at h;rw [Ae,decide_eq_true_eq]at h;exact h.2
 have EP:Qt t n stage=some true:=by unfold Qt;rw [ME hS,Aa,if_pos hg,Kl hS,Aa,if_pos (decide_eq_true hk),Hd,Aa,BW.2 ⟨Pj,ET⟩]
 unfold Oo;rw [EP,Aa,if_pos rfl,Hd,Aa,if_pos (BW.2 ⟨h1,h2⟩),MG hl,Aa];by_cases hr:D5 l=true
 ·have hw:=lP h Pj ET;have hlen:(way t (BP t n) (BG t n) stage).length≤4:=by
   unfold way;have:=YN 3 (BG t n) stage;rw [Ar,List.length_map];omega
  rw [if_neg (by simp [hr]),if_pos hr,cI hS f.1 (by rw [←f.2.1];exact f.2.2.2.1) (by rw [←f.2.1];exact f.2.2.2.2.1) Pj ET,Aa,AJ (by omega)];have e:way t (Bp (fun y:Au=>y.ab==n) t.ae) (EV t n).ak stage=way t (BP t n) (BG t n) stage:=by rw [f.2.1];rfl
  rw [e,UW (s:=⟨n,way t (BP t n) (BG t n) stage,List.replicate srv.toNat 0,l⟩) ⟨by dsimp only;omega,by dsimp only;omega,fun t ht=>Ih (G9 (hw t ht)),by dsimp only;rw [List.length_replicate];omega,hl⟩];rfl
 ·rw [if_pos (by simpa using hr),if_neg hr]
structure RC (t:Ad) (n:Ai) (rs:List Ac) (v:Am):Prop where
 name:v.ab.length≤10
 ways:v.ah.length≤4
 way: ∀w∈v.ah,BR w v.ab=true
 at_:v.a7.length≤3
 some_:1≤v.ah.length
 og:v.ah=DG v
 oj:1≤v.a7.length
 store:CP 5 v.ao
theorem RC.bw {t:Ad} {n:Ai} {rs:List Ac} {v:Am} (hI:RC t n rs v) {ats:List Int} (M9:ats.length=v.a7.length) (hb: ∀z∈ats,0≤z∧z≤(v.ah.length:Int)-1) {l:List Ac} (hl:CP 24 l):Cr ⟨v.ab,v.ah,ats,l⟩:=by
 have h1:=hI.at_;have h2:=hI.oj;have h3:=hl.len;refine⟨hI.some_,hI.ways,hI.way,hI.og,BW.2 ⟨?_, ?_⟩,hb, ?_⟩
 ·dsimp only;omega
 ·dsimp only;omega
 ·dsimp only;rw [Yh hl.cc hl.bw hl.live];exact decide_eq_true (by omega)
theorem zup [Inhabited BX] {t:Ad} {n:Ai} {rs:List Ac} {v11:List Ac × An} {v:Am × Bool} {ats:List Int} {c:An} {k:Int} {l:List Ac} (hI:RC t n rs v.1) (DS:CP 20 v11.1) (M9:ats.length=v.1.a7.length) (hb: ∀z∈ats,0≤z∧z≤(v.1.ah.length:Int)-1) (hl:CP 24 l) (h:AU c k) (hk:k≤4611686018427300000):
  A5 (dY v11 v ats c.ar c.bf c.au l) fun p=>(Hm 0 p.1∧Cr p.1)∧AU p.2 (k+10):=by
 unfold dY;have hw:=hI.ways;have ha:=hI.at_;refine(Io 7 (c:=⟨c.ar,c.bf,c.au⟩) h (by omega)).bind fun u hu=> .ite (fun _=> .ret ⟨⟨⟨hI.name,by dsimp only;omega,fun _=>hI.some_,fun t ht=>G9 (hI.way t ht),by dsimp only;omega,by have:=DS.len;dsimp only;omega,DS.kq (by omega)⟩,hI.bw M9 hb (DS.mono (by omega))⟩,hu.up (by omega)⟩) fun _=> .ret ⟨⟨⟨hI.name,by dsimp only;omega,fun _=>hI.some_,fun t ht=>G9 (hI.way t ht),by dsimp only;omega,by have:=hl.len;dsimp only;omega,hl.kq (by omega)⟩,hI.bw M9 hb hl⟩,hu.up (by omega)⟩
theorem zvf [Inhabited BX] {t:Ad} {y:Au} {v11:List Ac × An} {rs:List Ac} {v:Am × Bool} {ats:List Int} {c:An} {k:Int} (ht:BR t y.ab=true) (Dm:CP 5 rs) (hI:RC t y.ab rs v.1) (DS:CP 20 v11.1) (M9:ats.length=v.1.a7.length) (hb: ∀z∈ats,0≤z∧z≤(v.1.ah.length:Int)-1) (h:AU c k) (hk:k≤4611686018427200000):
  A5 (dW y t v11 rs v c.ar c.bf c.au ats) fun p=>(Hm 0 p.1∧Cr p.1)∧AU p.2 (k+200):=by
 have hg:=G9 ht;have hS:=Ih hg;have f:=IK ht;have hn:y.ab.length≤10:=by have:=(J9 (show Cl y.ab 1=true by rw [←f.1.name];exact(Fc hg f.2.2.1).1)).1;omega
 have hlen:=Dm.len;have hatl:=hI.at_;have DK:=hI.name;unfold dW;have Fo: ∀z∈ats,∃tb x,getI v.1.ah z=some tb∧tb∈v.1.ah∧Fe tb v.1.ab x∧BG tb v.1.ab=x.ak:=fun z hz=>by obtain⟨tb,q1,q2,_⟩:=IJ (hb z hz).1 (by have:=(hb z hz).2;omega:z<v.1.ah.length);obtain⟨x,q3,q4,_⟩:=ML (hI.way tb q2);exact⟨tb,x,q1,q2,q3,q4⟩
 have NA:(ats.map fun z=>BG ((getI v.1.ah z).getD L5) v.1.ab).length=ats.length:=by simp
 have n1:=o7 (s:=⟨v.1.ab,v.1.ah,ats,v.1.ao⟩) (st:=ats.map fun z=>BG ((getI v.1.ah z).getD L5) v.1.ab) NA (by rw [NA];omega) fun i hi=>by
  have Fx:i<ats.length:=by omega
  obtain⟨tb,x,q1,q2,q3,q4⟩:=Fo _ (List.getElem_mem Fx);refine⟨ats[i],tb,_,x,AO Fx,q1,Kl (Ih (G9 (hI.way _ q2))),q3.at_, ?_⟩;simp only [List.getElem_map,q1,Option.getD_some,q4]
 rw [n1,Aa,wC hS (by omega) f.1 (by omega) (fun w hw=>QM (Dm.bw w hw)),Aa];have L2:=jA t y.ab (EV t y.ab) rs;have oL: ∀z∈wanted t y.ab (EV t y.ab) rs,CW ⟨z, [],false⟩=true:=fun z hz=>by obtain⟨q,hq,hr,rfl⟩:=Ui.1 hz;refine UB (Yv hg ?_ (MD hr).1) (by decide);rw [←f.1.name];exact(Fc hg f.2.2.1).1
 generalize wanted t y.ab (EV t y.ab) rs=W at L2 oL;generalize J4 _=nd;refine Kb (fun m s=> ∃i:Nat,s.1=(i:Int)∧i+m=W.length∧CP (5+i) s.2.2.2.2∧AU ⟨s.2.1,s.2.2.1,s.2.2.2.1⟩ (k+2*i)) (fun m s hJ=> ?_) (n:=W.length) (by exact⟨0,rfl,by omega,hI.store,by simpa using h⟩);obtain⟨i,e1,e2,hT,ho⟩:=hJ;obtain⟨s1,a,b,e,l⟩:=s;dsimp only at e1 hT ho ⊢;subst e1;have Dj:=hT.len;unfold rS;refine .ite (fun Aq=> ?_) fun FK=> ?_
 ·simp only [decide_eq_true_eq]at Aq;have hi:i<W.length:=by omega
  have w1:IntKind.i64.wrap ((i:Int)+1)=((i+1:Nat):Int):=by rw [Bh (by omega) (by omega)];omega
  have GZ:=Q6 hT (oL _ (List.getElem_mem hi)) rfl;have IC:=JC (l:=l) (w:=⟨W[i], [],false⟩) (by omega) hT.cc;rw [AO hi,Aa];refine .ite (fun _=> .ite (fun _=> ?_) fun hf=>by cases hf) fun _=> .ite (fun _=> ?_) fun _=> .ite (fun hf=>by cases hf) fun _=> .ret ⟨m-1,by omega,i+1,w1,by omega,hT.mono (by omega),ho.up (by omega)⟩
  ·rw [IC,Aa];exact .ret ⟨m-1,by omega,i+1,w1,by omega,GZ.mono (by omega),ho.up (by omega)⟩
  ·refine(Io 2 ho (by omega)).bind fun u hu=> .ite (fun _=> ?_) fun _=> .ret ⟨m-1,by omega,i+1,w1,by omega,hT.mono (by omega),hu.up (by omega)⟩;rw [IC,Aa];exact .ret ⟨m-1,by omega,i+1,w1,by omega,GZ.mono (by omega),hu.up (by omega)⟩
 ·exact .ret ((zup (c:=⟨a,b,e⟩) hI DS M9 hb (hT.mono (by omega)) ho (by omega)).mono fun p hp=>⟨hp.1,hp.2.up (by omega)⟩)
theorem zum [Inhabited BX] {t:Ad} {y:Au} {v11:List Ac × An} {rs:List Ac} {k:Int} (ht:BR t y.ab=true) (Dm:CP 5 rs) (hrg:D5 rs=true) (DS:CP 20 v11.1) (h:AU v11.2 k) (hk:k≤4611686018427100000):
  A5 (dX y t v11 rs) fun p=>(Hm 0 p.1∧Cr p.1)∧AU p.2 (k+400):=by
 unfold dX;have hg:=G9 ht;have f:=IK ht;have hn:y.ab.length≤10:=by have:=(J9 (show Cl y.ab 1=true by rw [←f.1.name];exact(Fc hg f.2.2.1).1)).1;omega
 refine(CI 4 h (by omega)).bind fun p ⟨hp,hc⟩=>(CI 3 hc (by omega)).bind fun r ⟨hr,hd⟩=> ?_;have p2:=hp.2.1 (by omega);have r2:=hr.2.1 (by omega);have hW:JE rs:=(Dm.kq (by omega)).small;rw [Bh (n:=1+r.1) (by omega) (by omega),zv6 ht hn hp.1 (by omega) (by omega) (by omega) hW,Aa,if_pos hrg];have hI:RC t y.ab rs ((⟨y.ab,way t (BP t y.ab) (BG t y.ab) p.1,List.replicate (1+r.1).toNat 0,rs⟩:Am),true).1:=by
  have hw:=lP ht hp.1 (by omega);have hlen:(way t (BP t y.ab) (BG t y.ab) p.1).length≤4∧1≤(way t (BP t y.ab) (BG t y.ab) p.1).length:=by unfold way;have:=YN 3 (BG t y.ab) p.1;rw [Ar,List.length_map];omega
  exact⟨hn,hlen.1,hw,by dsimp only;rw [List.length_replicate];omega,hlen.2,xP ht hp.1 (by omega),by dsimp only;rw [List.length_replicate];omega,Dm⟩
 have hz: ∀z∈((⟨y.ab,way t (BP t y.ab) (BG t y.ab) p.1,List.replicate (1+r.1).toNat 0,rs⟩:Am),true).1.a7,z=0:=fun z hz=>(List.mem_replicate.1 hz).2;generalize ((⟨y.ab,way t (BP t y.ab) (BG t y.ab) p.1,List.replicate (1+r.1).toNat 0,rs⟩:Am),true)=v at hI hz;have F1:=hI.some_;have hws:=hI.ways;have M9:=hI.at_;refine(CI _ hd (by omega)).bind fun g ⟨VF,he⟩=> ?_;refine Kb (fun m s=> ∃i:Nat,s.1=(i:Int)∧i+m=v.1.a7.length∧s.2.2.2.2.length=v.1.a7.length∧(∀z∈s.2.2.2.2,0≤z∧z≤(v.1.ah.length:Int)-1)∧AU ⟨s.2.1,s.2.2.1,s.2.2.2.1⟩ (k+6+10*i)) (fun m s hJ=> ?_) (n:=v.1.a7.length) (by refine⟨0,rfl,by omega,rfl,fun z L3=> ?_,he.up (by omega)⟩;rw [hz z L3];omega)
 obtain⟨i,e1,e2,hl,hb,ho⟩:=hJ;obtain⟨s1,a,b,e,ats⟩:=s;dsimp only at e1 hl hb ho ⊢;subst e1;unfold rT;refine .ite (fun Aq=> ?_) fun FK=> ?_
 ·simp only [decide_eq_true_eq]at Aq;have hi:i<v.1.a7.length:=by omega
  have Pd:i<ats.length:=by omega
  have hg3:=VF.2.2;have hg4:=VF.2.1 (by omega);have w1:IntKind.i64.wrap ((i:Int)+1)=((i+1:Nat):Int):=by rw [Bh (by omega) (by omega)];omega
  refine(CI 2 ho (by omega)).bind fun u ⟨hu,hf⟩=> ?_;have u2:=hu.2.1 (by omega);obtain⟨z,ez,z0,z1⟩: ∃z,XR (IntKind.i64.wrap (g.1+u.1)) (IntKind.i64.wrap ((v.1.ah.length:Int)-1))=some z∧0≤z∧z≤(v.1.ah.length:Int)-1:=by
   rw [Bh (by omega) (by omega),Bh (by omega) (by omega)];unfold XR;split
   ·rename_i hh;rw [decide_eq_true_eq]at hh;exact⟨_,rfl,by omega,by omega⟩
   ·exact⟨_,rfl,by omega,by omega⟩
  rw [ez,Aa,AO Pd,Aa];have Jj: ∀{x:Int} {l:List Int} {j:Nat},(∀z∈l,0≤z∧z≤(v.1.ah.length:Int)-1)→0≤x→x≤(v.1.ah.length:Int)-1→ ∀z∈l.set j x,0≤z∧z≤(v.1.ah.length:Int)-1:=by
   intro x l j h0 h1 h2 z hz;rcases List.mem_or_eq_of_mem_set hz with hz|rfl
   ·exact h0 z hz
   ·exact⟨h1,h2⟩
  refine(Io 9 hf (by omega)).bind fun o oC=> .ite (fun _=> ?_) fun _=> .ret ⟨m-1,by omega,i+1,w1,by omega,by rw [List.length_set];exact hl,Jj hb z0 z1,oC.up (by omega)⟩;refine(CI _ oC (by omega)).bind fun q ⟨hq,hh⟩=> .ret ⟨m-1,by omega,i+1,w1,by omega,by rw [List.length_set,List.length_set];exact hl,Jj (Jj hb z0 z1) hq.1 (by have:=hq.2.1 (by omega);omega),hh.up (by omega)⟩
 ·exact .ret ((zvf (c:=⟨a,b,e⟩) ht Dm hI DS hl hb ho (by omega)).mono fun p hp=>⟨hp.1,hp.2.up (by omega)⟩)
theorem zvw [Inhabited BX] {t:Ad} {c:An} {k:Int} (hg:AZ t=true) (A9:t.ae≠ []) (h:AU c k) (hk:k≤4611686018427000000):
  A5 (Tm c.ar c.bf c.au t.ab t.al t.ae) fun p=>(Hm 0 p.1∧Cr p.1)∧AU p.2 (k+2000):=by
 unfold Tm;have hS:=Ih hg;have FY:0<t.ae.length:=List.length_pos_iff.2 A9;have hm:=List.getElem_mem FY;rw [show getI t.ae 0=some t.ae[0]from AO FY,Aa];refine(CI 4 (c:=⟨c.ar,c.bf,c.au⟩) h (by omega)).bind fun p ⟨hp,hc⟩=> ?_;have p2:=hp.2.1 (by omega);have hI:BR t t.ae[0].ab=true:=by unfold BR;have:=OM (fun y:Au=>y.ab==t.ae[0].ab) t.ae;rw [show(t.ae.any fun y=>y.ab==t.ae[0].ab)=true from List.any_eq_true.2 ⟨_,hm,by simp⟩]at this;rw [hg,this];rfl
 rw [show(⟨t.ab,t.al,t.ae⟩:Ad)=t from rfl,mR hS (YR hg hm),Aa];have ek:CL t (Bp (fun y:Au=>y.ab==t.ae[0].ab) t.ae) p.1=CL t (BP t t.ae[0].ab) p.1:=rfl;rw [ek];have Vq:=zB (c:=p.1) hI (BW.2 ⟨hp.1,by omega⟩);generalize t.ae[0]=y at Vq;generalize CL t (BP t y.ab) p.1=t' at Vq;have B1:=G9 Vq;have nL:=Ih B1;refine(x8 B1 hc (by omega)).bind fun l ⟨⟨hl,KF⟩,hd⟩=> ?_;have Dj:=hl.len;rw [YY nL.name (by omega) (fun w hw=>QM (hl.bw w hw)),Aa];have hR:(rows t' l.1).length≤5:=by unfold rows;rw [List.length_map];exact KF
 have RW: ∀r∈rows t' l.1,Bl t' r=true:=fun r hr=>jB hr;generalize rows t' l.1=R at hR RW;refine Kb (fun m s=> ∃i:Nat,s.2=(i:Int)∧i+m=R.length∧CP i s.1) (fun m s hJ=> ?_) (n:=R.length) (by exact⟨0,rfl,by omega,⟨⟨.nil,by simp,by simp⟩,by simp⟩⟩);obtain⟨i,e1,e2,hT⟩:=hJ;obtain⟨ws,s1⟩:=s;dsimp only at e1 hT ⊢;subst e1;have L2:=hT.len;unfold rR;refine .ite (fun Aq=> ?_) fun FK=> ?_
 ·simp only [decide_eq_true_eq]at Aq;have hi:i<R.length:=by omega
  have w1:IntKind.i64.wrap ((i:Int)+1)=((i+1:Nat):Int):=by rw [Bh (by omega) (by omega)];omega
  have Hs:=RW _ (List.getElem_mem hi);obtain⟨hs,h2⟩:=Mv B1 Hs;have A9:R[i].aw≠ []:=fun e=>by rw [e]at h2;simp at h2
  have hw:=Us B1 Hs;rw [AO hi,Aa,Q4 nL.name hs.small A9,Aa,JC (by omega) hT.cc,Aa];exact .ret ⟨m-1,by omega,i+1,w1,by omega,Q6 hT (w:=A6 t' R[i]) (UB hw.1 hw.2) rfl⟩
 ·exact .ret ((zum Vq (hT.mono (by omega)) (by rw [Yh hT.cc hT.bw hT.live];exact decide_eq_true (by omega)) hl hd (by omega)).mono fun p hp=>⟨hp.1,hp.2.up (by omega)⟩)
def S9:Int:=3000000000000000
theorem vZ [Inhabited BX] {c:An} {k:Int} (h:AU c k) (hs:sd c) (hl:(c.ar.length:Int)≤1048576) (hk:k≤1000000000000000000):A5 (Mh c) fun p=>(Hm 0 p.1∧Cr p.1)∧AU p.2 (k+S9):=by
 have R2:=h.2.1;have hm:RA=70368744177664:=rfl;obtain⟨p,hp,hg,A9⟩:=(wL (1048576+RA) h (by omega)).and (tR 1048576 RA h (by omega) hs (by omega) fun h1 h2 h3=>zxC h1 (by omega) h3);rw [zzV _ hp A9];refine(zvw hg.1 A9 hg.2 (by omega)).mono fun q hq=>⟨hq.1,hq.2.up ?_⟩
 unfold S9;omega
theorem zte [Inhabited BX] {c:An} {k:Int} (h:AU c k) (hs:sd c) (hl:(c.ar.length:Int)≤1048576) (hk:k≤1000000000000000000):A5 (WH c) fun p=>Hm 1 p.1∧AU p.2 (k+S9+100):=by
 unfold WH;have hf:S9=3000000000000000:=rfl;refine(vZ h hs hl hk).bind fun s ⟨⟨hS,_⟩,hc⟩=>(CI 14 hc (by omega)).bind fun q ⟨_,hd⟩=> ?_;have h1:=hS.ways;have h2:=hS.at_;have h3:=hS.store.len;have h4:=hS.od;refine .ite (fun _=> ?_) fun _=> .ite (fun _=> ?_) fun _=> .ite (fun _=> ?_) fun _=> .ite (fun _=> ?_) fun _=> .ite (fun _=> .ret ⟨⟨hS.name,by simp,by simp,by simp,by dsimp only;omega,by dsimp only;omega,hS.store⟩,hd.up (by omega)⟩) fun _=> .ite (fun _=> ?_) fun _=> .ret ⟨⟨hS.name,by dsimp only;omega,by simp,hS.way,by dsimp only;omega,by dsimp only;omega,hS.store⟩,hd.up (by omega)⟩
 ·refine(CI 6 hd (by omega)).bind fun u ⟨_,he⟩=> .req (by simp;omega) (.ret ⟨⟨hS.name,by dsimp only;omega,by simp,hS.way,by simp;omega,by dsimp only;omega,hS.store⟩,he.up (by omega)⟩)
 ·refine(OG hd (by omega)).bind fun u ⟨hu,he⟩=> .req (by simp;omega) (.ret ⟨⟨hS.name,by simp;omega,by simp,fun t ht=> ?_,by dsimp only;omega,by dsimp only;omega,hS.store⟩,he.up (by omega)⟩);dsimp only at ht;rcases Ah.1 ht with ht|ht
  ·exact hS.way t ht
  ·rw [List.mem_singleton.1 ht];exact hu
 ·refine(It _ (by simp) hd (by omega)).bind fun u ⟨hu,he⟩=> .ret ⟨⟨?_,by dsimp only;omega,by simp,hS.way,by dsimp only;omega,by dsimp only;omega,hS.store⟩,he.up (by omega)⟩;simp only [Af,List.not_mem_nil,or_false]at hu;dsimp only;rcases hu with e|e<;>rw [e]<;>decide
 ·refine .req (by simp;omega) (.ret ⟨⟨hS.name,by dsimp only;omega,by simp,hS.way,by dsimp only;omega,by simp;omega,⟨by simp;omega,fun w hw=> ?_⟩⟩,hd.up (by omega)⟩);dsimp only at hw;rcases Ah.1 hw with hw|hw
  ·exact hS.store.each w hw
  ·rw [List.mem_singleton.1 hw];exact⟨by decide,by decide⟩
 ·have h5:=hS.least rfl;refine .req (by omega) (.ret ⟨⟨hS.name, ?_,by simp,fun t ht=> ?_,by dsimp only;omega,by dsimp only;omega,hS.store⟩,hd.up (by omega)⟩)
  ·dsimp only;unfold A7;rw [List.length_drop,List.length_take];omega
  ·dsimp only at ht;unfold A7 at ht;exact hS.way t (List.mem_of_mem_take (List.mem_of_mem_drop ht))
theorem uD [Inhabited BX] {c:An} {k:Int} {s:Am} (hS:Hm 1 s) (h1:1≤s.ah.length) (h:AU c k) (hk:k≤4611686018427000000):A5 (Tn c s) fun p=>Lo p.1.bp∧AU p.2 (k+200):=by
 unfold Tn;refine(CI _ h (by omega)).bind fun p ⟨_,hc⟩=>(Io 3 hc (by omega)).bind fun u hu=> .ite (fun _=> ?_) fun _=> ?_
 ·exact(zA2 _ (by simp) hu (by omega)).bind fun q ⟨_,hd⟩=> .ret ⟨⟨Kd,Kd⟩,hd.up (by omega)⟩
 ·refine A5.bind (P:=fun t=>AZ t=true) (.getI (by omega) (by omega) hS.way) fun t ht=> ?_;exact(zEC ht hS.store hu (by omega)).bind fun a ⟨ha,hd⟩=> .ret ⟨ha,hd.up (by omega)⟩
theorem zpI [Inhabited BX] {c:An} {k:Int} {s:Am} (hS:Hm 1 s) (h:AU c k) (hk:k≤4611686018426000000):A5 (Ws c s) fun p=>Lo p.1.bp∧AU p.2 (k+300):=by
 unfold Ws;refine .ite (fun _=> .ret ⟨⟨Kd,Kd⟩,h.up (by omega)⟩) fun _=> .ite (fun _=> .ret ⟨⟨Kd,Kd⟩,h.up (by omega)⟩) fun h0=> ?_;have h1:1≤s.ah.length:=by
  have: ¬(s.ah.length:Int)=0:=by simpa using h0
  omega
 refine A5.bind (P:=fun _=>True) (.getI (by omega) (by omega) fun _ _=>trivial) fun t _=> .ite (fun _=> .ret ⟨⟨Kd,Kd⟩,h.up (by omega)⟩) fun _=> ?_;refine(uD hS h1 h (by omega)).bind fun a ⟨ha,hc⟩=>(CI 14 hc (by omega)).bind fun q ⟨_,hd⟩=> ?_;refine .ite (fun _=> ?_) fun _=> .ite (fun _=> ?_) fun _=> .ite (fun _=> ?_) fun _=> .ret ⟨⟨ha.old,ha.new⟩,hd.up (by omega)⟩
 ·exact(CI 5 hd (by omega)).bind fun u ⟨_,he⟩=> .ret ⟨⟨ha.old,ha.new⟩,he.up (by omega)⟩
 ·exact(CI 5 hd (by omega)).bind fun u ⟨_,he⟩=> .ret ⟨⟨ha.old,ha.new⟩,he.up (by omega)⟩
 ·exact(CI 5 hd (by omega)).bind fun u ⟨_,he⟩=> .ret ⟨⟨ha.old,ha.new⟩,he.up (by omega)⟩
theorem zAP {s:Am} (hS:Dp s) (hg:Cr s):TW s.a7=some (D7 s.a7)∧PN s=some (D7 s.a7):=by
 have hb: ∀y∈s.a7,0≤y∧y≤3:=fun y hy=>by have:=hg.2.2.2.2.2.1 y hy;have:=hg.2.1;omega
 have h3:=BW.1 hg.2.2.2.2.1;exact⟨lB hS.at_ hb,xU hS.at_ (by omega) hb⟩
theorem xX {s:Am} (hS:Dp s):T1 s s=some true:=by unfold T1;rw [if_pos (by simp),zyJ hS.ways hS.way,Aa,if_pos rfl,zCj hS.at_,Aa,if_pos rfl,zAY hS.store.1];rfl
theorem Ug:Dp MW:=⟨by simp [MW],by simp [MW],by simp [MW],by simp [MW],⟨by simp [MW],by simp [MW]⟩⟩
theorem GA.refl {s:Am} (hS:Dp s) (hg:Cr s):GA s s:=⟨hg,hS,rfl,rfl,rfl⟩
theorem GA.trans {s r q:Am} (h:GA s r) (k:GA r q):GA s q:=⟨k.bw,k.small,k.name.trans h.name,k.ways.trans h.ways,k.at_.trans h.at_⟩
theorem IM {bs:List Bool} {b:Bool} (h:bs.length≤1000):((bs.length:Int)+(([b]:List Bool).length:Int))*1≤140737488355328∧(bs.length:Int)+(([b]:List Bool).length:Int)≤140737488355328:=by rw [AD];omega
theorem zAf {s:Am} {acts:List BN} {c:Bool} {bs:List Bool} {q:Nat} (hq:q<acts.length) (hl:acts.length≤1000) (Fj:bs.length≤1000) (hS:Dp s) (hg:Cr s) (hA: ∀a∈acts,F6 a.bp):
  ∃(s':Am) (b:Bool),HC acts c bs q s.ab s.ah s.a7 s.ao=some (.inl (bs++ [b],((q+1:Nat):Int),s'.ab,s'.ah,s'.a7,s'.ao))∧
   Of acts c q s.ab s.ah s.a7 s.ao bs=some (.inl (((q+1:Nat):Int),s'.ab,s'.ah,s'.a7,s'.ao,bs++ [b]))∧GA s s':=by
 have Lz:=hA _ (List.getElem_mem hq);obtain⟨g,e1,e2,f⟩:=tW (a:=acts[q]) hg Lz;have hw:=Bi hq (by omega);have hd:decide ((q:Int)<(acts.length:Int))=true:=decide_eq_true (by omega);have eS:(⟨s.ab,s.ah,s.a7,s.ao⟩:Am)=s:=rfl;unfold HC Of;rw [eS,if_pos hd,if_pos hd,AO hq,Aa,Aa,e1,e2,Aa,Aa];have stay: ∀b:Bool,∃(s':Am) (b':Bool),(some (.inl (bs++ [b],((q+1:Nat):Int),s.ab,s.ah,s.a7,s.ao)):Option ((List Bool × Int × Ab × List Ad × List Int × List Ac) ⊕ Option (Am × List Bool)))=some (.inl (bs++ [b'],((q+1:Nat):Int),s'.ab,s'.ah,s'.a7,s'.ao))∧
   (some (.inl (((q+1:Nat):Int),s.ab,s.ah,s.a7,s.ao,bs++ [b])):Option ((Int × Ab × List Ad × List Int × List Ac × List Bool) ⊕ Option (Am × List Bool × Bool)))=some (.inl (((q+1:Nat):Int),s'.ab,s'.ah,s'.a7,s'.ao,bs++ [b']))∧GA s s':=fun b=>⟨s,b,rfl,rfl,GA.refl hS hg⟩
 cases H5:g with
 |false=>
  have h0:=stay false;cases c with
  |true=>
   by_cases h1:(acts[q]).bc=0
   ·simp only [h1,beq_self_eq_true,bne_self_eq_false,if_true,Bool.false_and,AY,if_false,AJ (IM Fj),hw];exact h0
   ·simp only [beq_eq_false_iff_ne.2 h1,bne_iff_ne.2 h1,if_true,AY,if_false,AJ (IM Fj),hw];exact h0
  |false=>simp only [Bool.false_and,AY,if_false,AJ (IM Fj),hw];exact h0
 |true=>
  obtain⟨r,k1,k2,hn⟩:=YL hS hg Lz (f H5);have go: ∃(s':Am) (b':Bool),(some (.inl (bs++ [r.2],((q+1:Nat):Int),r.1.ab,r.1.ah,r.1.a7,r.1.ao)):Option ((List Bool × Int × Ab × List Ad × List Int × List Ac) ⊕ Option (Am × List Bool)))=some (.inl (bs++ [b'],((q+1:Nat):Int),s'.ab,s'.ah,s'.a7,s'.ao))∧
    (some (.inl (((q+1:Nat):Int),r.1.ab,r.1.ah,r.1.a7,r.1.ao,bs++ [r.2])):Option ((Int × Ab × List Ad × List Int × List Ac × List Bool) ⊕ Option (Am × List Bool × Bool)))=some (.inl (((q+1:Nat):Int),s'.ab,s'.ah,s'.a7,s'.ao,bs++ [b']))∧GA s s':=⟨r.1,r.2,rfl,rfl,hn⟩
  cases c with
  |true=>
   by_cases h1:(acts[q]).bc=0
   ·simp only [h1,beq_self_eq_true,bne_self_eq_false,if_true,Bool.true_and,AY,if_false,k1,k2,Aa,AJ (IM Fj),hw];exact go
   ·obtain⟨m,m1,m2⟩:=zBr hS hg Lz (f H5);simp only [beq_eq_false_iff_ne.2 h1,bne_iff_ne.2 h1,if_true,AY,if_false,m1,m2,k1,k2,Aa,hw];cases hm:m with
    |true=>simp only [if_true,Bool.not_true,Bool.not_false,AJ (IM Fj)];exact go
    |false=>simp only [Bool.not_true,Bool.not_false,AY,if_false,AJ (IM Fj)];exact stay false
  |false=>simp only [Bool.true_and,if_true,AY,if_false,k1,k2,Aa,AJ (IM Fj),hw];exact go
theorem jS {acts:List BN} {c:Bool} (hl:acts.length≤1000) (hA: ∀a∈acts,F6 a.bp): ∀(n q:Nat) (s:Am) (bs:List Bool),q+n=acts.length→bs.length=q→Dp s→Cr s→
  ∃r:Am × List Bool,AA (fun s:List Bool × Int × Ab × List Ad × List Int × List Ac=>HC acts c s.1 s.2.1 s.2.2.1 s.2.2.2.1 s.2.2.2.2.1 s.2.2.2.2.2) (bs,(q:Int),s.ab,s.ah,s.a7,s.ao)=some r∧
   AA (fun s:Int × Ab × List Ad × List Int × List Ac × List Bool=>Of acts c s.1 s.2.1 s.2.2.1 s.2.2.2.1 s.2.2.2.2.1 s.2.2.2.2.2) ((q:Int),s.ab,s.ah,s.a7,s.ao,bs)=some (r.1,r.2,true)∧GA s r.1∧r.2.length=acts.length
 |0,q,s,bs,hq,hb,hS,hg=>by
  have hd: ¬decide ((q:Int)<(acts.length:Int))=true:=by rw [decide_eq_true_eq];omega
  refine⟨(s,bs),ED ?_,ED ?_,GA.refl hS hg,by show bs.length=_;omega⟩
  ·show HC acts c bs q s.ab s.ah s.a7 s.ao=_;unfold HC;rw [if_neg hd]
  ·show Of acts c q s.ab s.ah s.a7 s.ao bs=_;unfold Of;rw [if_neg hd]
 |n+1,q,s,bs,hq,hb,hS,hg=>by obtain⟨s',b,e1,e2,hn⟩:=zAf (c:=c) (bs:=bs) (q:=q) (by omega) hl (by omega) hS hg hA;obtain⟨r,r1,r2,r3,r4⟩:=jS hl hA n (q+1) s' (bs++ [b]) (by omega) (by rw [Ao,AD];omega) hn.small hn.bw;exact⟨r,(E9 (body:=fun s:List Bool × Int × Ab × List Ad × List Int × List Ac=>HC acts c s.1 s.2.1 s.2.2.1 s.2.2.2.1 s.2.2.2.2.1 s.2.2.2.2.2) e1).trans r1,(E9 (body:=fun s:Int × Ab × List Ad × List Int × List Ac × List Bool=>Of acts c s.1 s.2.1 s.2.2.1 s.2.2.2.1 s.2.2.2.2.1 s.2.2.2.2.2) e2).trans r2,hn.trans r3,r4⟩
theorem zyQ {s:Am} (hg:Cr s):Hm 1 s:=by have hI:=hg.2.2.1 (C5 s) (OD hg.1).2;have f:=IK hI;have hn:=(J9 (show Cl s.ab 1=true by rw [←f.1.name];exact(Fc f.2.2.2.2.2 f.2.2.1).1)).1;have h3:=BW.1 hg.2.2.2.2.1;have hR:=(OC hg.2.2.2.2.2.2).1;have hl:=hR.len;exact⟨by omega,by have:=hg.2.1;omega,by simp,fun t ht=>G9 (hg.2.2.1 t ht),by omega,by omega,⟨by omega,fun w hw=>QM (hR.bw w hw)⟩⟩
theorem ztk [Inhabited BX] {c:An} {k:Int} {s:Am} (hS:Dp s) (hg:Cr s) (h:AU c k) (hk:k≤4611686018420000000):A5 (WG c s 20) fun p=>(p.1.length≤20∧ ∀a∈p.1,Lo a.bp)∧AU p.2 (k+10000):=by
 unfold WG;rw [show IntKind.i64.wrap (20+1)=21 from by decide];refine(CI 21 h (by omega)).bind fun p ⟨hp,hc⟩=> ?_;have p2:=hp.2.1 (by omega);obtain⟨m,hm⟩:=Int.eq_ofNat_of_zero_le hp.1;refine Kb (fun j s=>j≤20∧s.2.1=(j:Int)∧(s.1.length+j≤20∧ ∀a∈s.1,Lo a.bp)∧AU ⟨s.2.2.1,s.2.2.2.1,s.2.2.2.2.1⟩ (k+2+300*(20-j))∧Dp ⟨s.2.2.2.2.2.1,s.2.2.2.2.2.2.1,s.2.2.2.2.2.2.2.1,s.2.2.2.2.2.2.2.2⟩∧Cr ⟨s.2.2.2.2.2.1,s.2.2.2.2.2.2.1,s.2.2.2.2.2.2.2.1,s.2.2.2.2.2.2.2.2⟩) (fun j s hI=> ?_) (n:=m) (by exact⟨by omega,hm,⟨by simp;omega,by simp⟩,hc.up (by omega),hS,hg⟩);obtain⟨l,v,a,b,e,w1,w2,w3,w4⟩:=s;obtain⟨i0,i1,⟨i2,i3⟩,i4,i5,i6⟩:=hI;dsimp only at i1 i2 i3 i4 i5 i6 ⊢;subst i1;unfold rQ;refine .ite (fun Aq=> ?_) fun FK=> ?_
 ·simp only [decide_eq_true_eq,gt_iff_lt]at Aq;refine(uD (zyQ i6) (by have:=i6.1;exact this) i4 (by omega)).bind fun x ⟨hx,hd⟩=> .req (by simp;omega) ?_;obtain⟨r,r1,_,r3,_⟩:=jS (acts:= [x.1]) (c:=true) (by simp) (fun y hy=>by rw [List.mem_singleton.1 hy];exact hx.small) 1 0 _ [] rfl rfl i5 i6;have p1:TT ⟨w1,w2,w3,w4⟩ [x.1] true=some r:=r1;rw [p1,Aa];refine .ret ⟨j-1,by omega,by omega, ?_,⟨by simp;omega,fun y hy=> ?_⟩,hd.up (by omega),r3.small,r3.bw⟩
  ·dsimp only;rw [Bh (by omega) (by omega)];omega
  ·rcases Ah.1 hy with hy|hy
   ·exact i3 y hy
   ·rw [List.mem_singleton.1 hy];exact hx
 ·exact .ret (.ret ⟨⟨by dsimp only;omega,i3⟩,i4.up (by omega)⟩)
theorem zpx {code:List Int} (h: ∀b∈code,0≤b∧b≤255) (hl:(code.length:Int)≤1048576):A5 (WI code) fun p=>Hm 1 p.1∧p.2.1.length≤21∧ ∀a∈p.2.1,Lo a.bp:=by
 letI:Inhabited BX:=⟨⟨fun l=>(∀b∈l,0≤b∧b≤255)∧l=code,fun _ h=>h.1⟩⟩
 have hf:S9=3000000000000000:=rfl;have hlen: ∀{c:An} {k:Int},AU c k→(c.ar.length:Int)≤1048576:=fun{c k} hc=>by have e:c.ar=code:=hc.1.2;rw [e];exact hl
 have h0:AU ⟨code,0,0⟩ 0:= .start ⟨h,rfl⟩;have up0: ∀{s:Am},Hm 0 s→Hm 1 s:=fun{s} hs=>⟨hs.name,by have:=hs.ways;omega,by simp,hs.way,by have:=hs.at_;omega,by have:=hs.od;omega,hs.store⟩
 unfold WI;refine((mM 3 (by omega) (by omega) h0 (by omega)).and (Io 3 h0 (by omega))).bind fun u ⟨⟨_,_,u3,_⟩,hu⟩=> ?_;refine(vZ hu u3 (hlen hu) (by omega)).bind fun s ⟨⟨hD,hg⟩,hc⟩=> ?_;refine(ztk (hD.small (by omega)) hg hc (by omega)).bind fun l ⟨⟨JU,JV⟩,hd⟩=> ?_;refine((QX 12 (by omega) (by omega) hd (by omega)).and (CI 12 hd (by omega))).bind fun q ⟨⟨_,_,q3,_⟩,_,he⟩=> ?_;refine .ite (fun _=> ?_) fun _=> .ite (fun _=> ?_) fun _=> .ret ⟨up0 hD,by dsimp only;omega,JV⟩
 ·refine(zpI (up0 hD) he (by omega)).bind fun x ⟨hx,_⟩=> .req (by simp;omega) (.ret ⟨up0 hD,by simp;omega,fun y hy=> ?_⟩);dsimp only at hy;rcases Ah.1 hy with hy|hy
  ·exact JV y hy
  ·rw [List.mem_singleton.1 hy];exact hx
 ·exact(zte he q3 (hlen he) (by omega)).bind fun x ⟨hx,_⟩=> .ret ⟨hx,by dsimp only;omega,JV⟩
theorem zqw {code:List Int} (h: ∀b∈code,0≤b∧b≤255):A5 (W0 code) fun p=>CJ p.1∧JH p.2.2.2.2:=by unfold W0;refine(zuS (.start h) (by omega)).bind fun t ⟨hT,hc⟩=>(It _ (by simp) hc (by omega)).bind fun n ⟨_,hd⟩=>(CI 6 hd (by omega)).bind fun p ⟨_,he⟩=>(CI 5 he (by omega)).bind fun q ⟨_,hf⟩=>(OG hf (by omega)).bind fun x ⟨hx,hg⟩=>(zu7 hx hg (by omega)).bind fun y ⟨hy,_⟩=> .ret ⟨hT,hy⟩
theorem zxW (m:Nat):D7 (List.replicate m (0:Int))=true:=by unfold D7;rw [AG];intro x hx;rw [AG];intro y hy;rw [(List.mem_replicate.1 hx).2,(List.mem_replicate.1 hy).2];rfl
theorem ztV {t:Ad} {n:Ai} {stage srv:Int} {l:List Ac} (hS:CJ t) (hl:JE l): ∃r,Oo t n stage srv l=some r∧Xg t n stage srv l=some r∧Dp r.1∧(r.2=true→Cr r.1∧D7 r.1.a7=true):=by
 have zero:(MW:Am)=⟨[], [], [], []⟩:=rfl;have EP:Qt t n stage=some (BR t n&&BL stage 0 3):=by
  unfold Qt BR;rw [ME hS,Aa];cases E4:AZ t with
  |false=>rfl
  |true=>
   rw [if_pos rfl,Kl hS,Aa,Hd];by_cases h:Bp (fun x:Au=>x.ab==n) t.ae≥0
   ·rw [if_pos (decide_eq_true h),decide_eq_true h];rfl
   ·rw [if_neg (by simpa using h),decide_eq_false h];rfl
 have bM:Qn stage=some (BL stage 0 3):=by unfold Qn;rw [IG];rfl
 unfold Oo Xg hY;rw [EP,oZ hS,Aa,Aa,bM,Aa,Hd,IG,MG hl,zT hl];by_cases hh:BR t n=true
 ·rw [hh,if_pos rfl];by_cases hb:BL stage 0 3=true
  ·have EZ:=BW.1 hb;have hg:=G9 hh;have f:=IK hh;have hw:=lP hh EZ.1 EZ.2;have hn:=(J9 (show Cl n 1=true by rw [←f.1.name];exact(Fc hg f.2.2.1).1)).1;have hlen:(way t (BP t n) (BG t n) stage).length≤4∧1≤(way t (BP t n) (BG t n) stage).length:=by
    unfold way;have:=YN 3 (BG t n) stage;rw [Ar,List.length_map];omega
   have e:way t (Bp (fun y:Au=>y.ab==n) t.ae) (EV t n).ak stage=way t (BP t n) (BG t n) stage:=by rw [f.2.1];rfl
   have g1:0≤(EV t n).ak:=by rw [←f.2.1];exact f.2.2.2.1
   have g2:(EV t n).ak≤3:=by rw [←f.2.1];exact f.2.2.2.2.1
   rw [hb];simp only [Bool.and_self,Bool.not_true,AY,if_true,if_false,pZ hS f.1 g1 g2 EZ.1 EZ.2,Aa,e];by_cases hs:BL srv 1 3=true
   ·have AW:=BW.1 hs;rw [if_pos hs,if_pos hs];by_cases hr:D5 l=true
    ·rw [if_neg (by simp [hr]),if_neg (by simp [hr]),cI hS f.1 g1 g2 EZ.1 EZ.2,Aa,AJ (by omega),AJ (by omega),e];have nM:Dp ⟨n,way t (BP t n) (BG t n) stage,List.replicate srv.toNat 0,l⟩:=⟨by dsimp only;omega,by dsimp only;omega,fun t ht=>Ih (G9 (hw t ht)),by dsimp only;rw [List.length_replicate];omega,hl⟩
     have hc:Oc l=some l:=OL (by have:=hl.1;omega) (by have:=hl.1;omega);rw [UW nM,hc,Aa,Aa];refine⟨_,rfl,rfl,nM,fun _=>⟨⟨hlen.2,hlen.1,hw,xP hh EZ.1 EZ.2,BW.2 ⟨?_, ?_⟩,fun y hy=> ?_,hr⟩,zxW _⟩⟩
     ·dsimp only;rw [List.length_replicate];omega
     ·dsimp only;rw [List.length_replicate];omega
     ·dsimp only at hy ⊢;rw [(List.mem_replicate.1 hy).2];have:=hlen.2;omega
    ·rw [if_pos (by simpa using hr),if_pos (by simpa using hr)];exact⟨_,rfl,rfl,Ug,fun h=>by cases h⟩
   ·rw [if_neg hs,if_neg hs];exact⟨_,rfl,rfl,Ug,fun h=>by cases h⟩
  ·rw [Bool.not_eq_true]at hb;rw [hb];exact⟨_,rfl,rfl,Ug,fun h=>by cases h⟩
 ·rw [Bool.not_eq_true]at hh;rw [hh];exact⟨_,rfl,rfl,Ug,fun h=>by cases h⟩
theorem zyg {s:Am} {acts:List BN} {bs:List Bool} {q:Nat} (hq:q<acts.length) (hl:acts.length≤1000) (Fj:bs.length≤1000) (hS:Dp s) (hg:Cr s) (hA: ∀a∈acts,F6 a.bp) (hh:Gy s=true) (hc:D7 s.a7=true):
  ∃(s':Am) (b:Bool),HC acts true bs q s.ab s.ah s.a7 s.ao=some (.inl (bs++ [b],((q+1:Nat):Int),s'.ab,s'.ah,s'.a7,s'.ao))∧GA s s'∧Gy s'=true∧D7 s'.a7=true:=by
 have Lz:=hA _ (List.getElem_mem hq);obtain⟨g,e1,_,f⟩:=tW (a:=acts[q]) hg Lz;have hw:=Bi hq (by omega);have hd:decide ((q:Int)<(acts.length:Int))=true:=decide_eq_true (by omega);have eS:(⟨s.ab,s.ah,s.a7,s.ao⟩:Am)=s:=rfl;unfold HC;rw [eS,if_pos hd,AO hq,Aa,e1,Aa];cases H5:g with
 |false=>
  refine⟨s,false, ?_,GA.refl hS hg,hh,hc⟩;by_cases h1:(acts[q]).bc=0
  ·simp only [h1,beq_self_eq_true,if_true,Bool.false_and,AY,if_false,AJ (IM Fj),hw]
  ·simp only [beq_eq_false_iff_ne.2 h1,if_true,AY,if_false,AJ (IM Fj),hw]
 |true=>
  obtain⟨r,k1,k2,hn⟩:=YL hS hg Lz (f H5);by_cases h1:(acts[q]).bc=0
  ·have hk:=zyc hS hg Lz (f H5) k1 hh hc fun h=>absurd h1 h;refine⟨r.1,r.2, ?_,hn,hk.2,hk.1⟩;simp only [h1,beq_self_eq_true,if_true,Bool.true_and,k1,Aa,AJ (IM Fj),hw]
  ·have m1:=zFn hS hg Lz (f H5) k1;cases hm:(r.2&&(D7 r.1.a7&&Gy r.1))with
   |true=>rw [hm]at m1;simp only [Ae]at hm;refine⟨r.1,r.2, ?_,hn,hm.2.2,hm.2.1⟩;simp only [beq_eq_false_iff_ne.2 h1,if_true,AY,if_false,m1,k1,Aa,AJ (IM Fj),hw]
   |false=>rw [hm]at m1;refine⟨s,false, ?_,GA.refl hS hg,hh,hc⟩;simp only [beq_eq_false_iff_ne.2 h1,if_true,AY,if_false,m1,Aa,AJ (IM Fj),hw]
theorem xA {acts:List BN} (hl:acts.length≤1000) (hA: ∀a∈acts,F6 a.bp): ∀(n q:Nat) (s:Am) (bs:List Bool) (r:Am × List Bool),q+n=acts.length→bs.length=q→Dp s→Cr s→Gy s=true→D7 s.a7=true→
  AA (fun s:List Bool × Int × Ab × List Ad × List Int × List Ac=>HC acts true s.1 s.2.1 s.2.2.1 s.2.2.2.1 s.2.2.2.2.1 s.2.2.2.2.2) (bs,(q:Int),s.ab,s.ah,s.a7,s.ao)=some r→Gy r.1=true∧D7 r.1.a7=true
 |0,q,s,bs,r,hq,hb,hS,hg,hh,hc,H=>by
  have hd: ¬decide ((q:Int)<(acts.length:Int))=true:=by rw [decide_eq_true_eq];omega
  have e:HC acts true bs q s.ab s.ah s.a7 s.ao=some (.inr (some (s,bs))):=by unfold HC;rw [if_neg hd]
  have:=(ED (body:=fun s:List Bool × Int × Ab × List Ad × List Int × List Ac=>HC acts true s.1 s.2.1 s.2.2.1 s.2.2.2.1 s.2.2.2.2.1 s.2.2.2.2.2) e).symm.trans H;cases this;exact⟨hh,hc⟩
 |n+1,q,s,bs,r,hq,hb,hS,hg,hh,hc,H=>by obtain⟨s',b,e1,hn,h1,h2⟩:=zyg (bs:=bs) (q:=q) (by omega) hl (by omega) hS hg hA hh hc;have H2:=(E9 (body:=fun s:List Bool × Int × Ab × List Ad × List Int × List Ac=>HC acts true s.1 s.2.1 s.2.2.1 s.2.2.2.1 s.2.2.2.2.1 s.2.2.2.2.2) e1).symm.trans H;exact xA hl hA n (q+1) s' (bs++ [b]) r (by omega) (by rw [Ao,AD];omega) hn.small hn.bw h1 h2 H2
theorem zz5 {s:Am} {acts:List BN} {c:Bool} (hS:Dp s) (hA: ∀a∈acts,F6 a.bp): ∃r,Xq s acts c=some r∧Xy s acts c=some r∧Dp r.1∧r.2.1.length≤20∧
  (r.2.2=true→Cr s∧Cr r.1∧r.2.1.length=acts.length∧(c=true→Gy s=true→D7 s.a7=true→Gy r.1=true∧D7 r.1.a7=true)):=by
 obtain⟨g1,e1,f1⟩:=zC4 hS;obtain⟨g2,e2,f2⟩:=zP hS;have hg:g1=g2:=by rw [Bool.eq_iff_iff,f1,f2]
 subst hg;unfold Xq Xy;rw [e1,e2,Aa,Aa];by_cases h:((!g1)||(decide ((acts.length:Int)>20)))=true
 ·rw [if_pos h,if_pos h];exact⟨_,rfl,rfl,Ug,by simp,fun h=>by cases h⟩
 ·rw [if_neg h,if_neg h];simp only [Bool.or_eq_true,Bool.not_eq_true',decide_eq_true_eq,not_or,Bool.not_eq_false]at h;have JS:=f1.1 h.1;obtain⟨r,r1,r2,r3,r4⟩:=jS (c:=c) (by omega) hA acts.length 0 s [] (by omega) rfl hS JS;have p1:TT s acts c=some r:=r1;rw [UW hS,xO hS,Aa,Aa,p1];refine⟨(r.1,r.2,true),rfl,r2,r3.small,by show r.2.length≤20;omega,fun _=>⟨JS,r3.bw,r4,fun hc hh AE=> ?_⟩⟩;subst hc;exact xA (by omega) hA acts.length 0 s [] r (by omega) rfl hS JS hh AE r1
structure zGk (s:Am) (g:Bool):Prop where
 gi:Mq s=some g
 hi:Qv s=some (if g=true then(Gy s,true)else(false,false))
 ci:Ot s=some (if g=true then(D7 s.a7,true)else(false,false))
 bw:g=true↔Cr s
theorem cP {s:Am} (hS:Dp s): ∃g,zGk s g:=by
 obtain⟨g,e2,f1⟩:=zP hS;cases g with
 |false=>
  refine⟨false,e2, ?_, ?_,f1⟩
  ·unfold Qv;rw [e2];rfl
  ·unfold Ot;rw [e2];rfl
 |true=>
  have JS:=f1.1 rfl;refine⟨true,e2, ?_, ?_,f1⟩
  ·unfold Qv;rw [e2,Aa,if_neg (by simp),(kQ hS JS).2];rfl
  ·unfold Ot;rw [e2,Aa,if_neg (by simp),(zAP hS JS).2];rfl
theorem zzZ (c b:List Int) (hc:V0 N5 c) (hb:V0 N5 b) (z0:c.length≤140737488351232) (z1:b.length≤140737488351232):XU c b=some true:=by
 unfold XU;refine Wo (fun _=>rfl) fun hlen=> ?_;have hl:(c.length:Int)≤1048576:=by simp only [decide_eq_false_iff_not]at hlen;rw [Bh (by omega) (by omega)]at hlen;omega
 obtain⟨⟨s,acts,careful⟩,hd,hD,hal,hA⟩:=zpx hc.2 hl;dsimp only at hD hal hA;have hS:=hD.small (by omega);obtain⟨r,p1,p2,p3,p4,p5⟩:=zz5 (s:=s) (acts:=acts) (c:=careful) hS fun a ha=>(hA a ha).small;obtain⟨⟨t,n,stage,srv,st⟩,ZP,hT,hW⟩:=zqw hb.2;dsimp only at hT hW;obtain⟨q,q1,q2,q3,q4⟩:=ztV (n:=n) (stage:=stage) (srv:=srv) hT hW.small;obtain⟨g,Q⟩:=cP hS;obtain⟨g',Q'⟩:=cP p3;obtain⟨h,W⟩:=cP q3;have hj:WU (s,acts,careful) r=some true:=by unfold WU;refine Wo (fun _=>rfl) fun Ax=> ?_;simp only [Bool.not_eq_false']at Ax;obtain⟨k1,k2,k3,k4⟩:=p5 Ax;have E4:=Q.bw.2 k1;have Sk:=Q'.bw.2 k2;refine(Gp Q.hi).trans ((Gp Q.ci).trans ?_);rw [if_pos E4,if_pos E4];refine S7 (by simp [k3]) (Wo (fun _=>rfl) fun B6=> ?_);simp only [Bool.or_eq_false_iff,Bool.not_eq_false']at B6;obtain⟨⟨h1,h2⟩,h3⟩:=B6;obtain⟨m1,m2⟩:=k4 h1 h2 h3;refine(Gp Q'.hi).trans ((Gp Q'.ci).trans ?_);rw [if_pos Sk,if_pos Sk,m1,m2];rfl
 refine(Gp hd).trans ((Gp p2).trans ((Gp p1).trans ((Gp ZP).trans ((Gp q2).trans ((Gp q1).trans ?_)))));refine S7 (by simp) ((Gp (zB4 (by omega))).trans (Wk rfl ((Gp (xX p3)).trans (Wk rfl (S7 (by simp) ((Gp (xX q3)).trans (S7 (by simp) (Wo (fun h5=> ?_) fun _=>hj))))))));obtain⟨x1,x2⟩:=q4 h5;have E4:=W.bw.2 x1;refine(Gp W.ci).trans ?_;rw [if_pos E4];exact Wk rfl (Wk x2 ((Gp W.gi).trans (S7 (by simp [E4]) hj)))
theorem zwe {H:Type} {enc:TypeId × Value→H} {P:Program} {w:World} {base:Nat} {sp:Nat→Bool} {held:Bool} {fuel:Nat} {t:TypeId} {cs:List Value} {n:String} {d:DataW H} {p:List MemPlace} {u:TypeDesc}
  (ht:P.underlying t=some u) (hu:(match u with| .interface _=>true|_=>false)=true) (h:DataW.trod enc P w base sp held fuel t cs=some (.iface n d,p)): ∃a v,cs= [.iface a v]:=by
 cases fuel with
 |zero=>simp [DataW.trod]at h
 |succ fuel=>
  cases u<;>first|(cases hu;done)|skip
  simp only [DataW.trod,ht]at h;split at h<;>first|(exact⟨_,_,rfl⟩)|(simp at h;done)|(simp_all;done)
noncomputable def qN (s:String):Bool:=match(Tryz.prog.globalNamed s).bind (fun g=>(Tryz.prog.globals[g]?).map (·.type))with
 |some t=>(match Tryz.prog.underlying t with|some (.interface _)=>true|_=>false)
 |none=>false
noncomputable def pS (s:String):Bool:=match(Tryz.prog.globalNamed s).bind (fun g=>(Tryz.prog.globals[g]?).map (·.type))with
 |some t=>(match Tryz.prog.underlying t with
  |some (.array n e)=>(match Tryz.prog.underlying e with|some (.int .u64)=>true|_=>false)&&Tryz.prog.cellsOf e==1&&Tryz.prog.cellsOf t==n
  |_=>false)
 |none=>false
theorem yU {s:String} {D:DataW Unit} {W:World} (h:laidMet Tryz.prog [(s,D)] W) (hc:qN s=true) (hd: ∃n d,D= .iface n d): ∃t p,W.var? Tryz.prog s=some #[.iface t p]:=by
 obtain⟨ps,⟨g,t,cs,fuel,p,q,hg,ht,SQ,VQ,_,_⟩,_⟩:=h;obtain⟨n,d,rfl⟩:=hd;unfold qN at hc;rw [hg,Aa,ht]at hc;simp only at hc;cases hu:Tryz.prog.underlying t with
 |none=>rw [hu]at hc;cases hc
 |some u=>obtain⟨a,v,e⟩:=zwe hu (by rw [hu]at hc;cases u<;>first|rfl|cases hc) VQ;refine⟨a,v, ?_⟩;rw [SQ];congr 1;apply Array.ext';rw [e]
theorem zEI {s:String} {W:World} (h:laidMet Tryz.prog [(s,Lib.tabData .u64 Lib.pow10Tab)] W) (hc:pS s=true):Lib.TabIs Tryz.prog W s .u64 Lib.pow10Tab:=by
 have h0:=h;obtain⟨ps,⟨g,t,cs,fuel,p,q,hg,ht,SQ,VQ,_,_⟩,_⟩:=h;unfold pS at hc;rw [hg,Aa,ht]at hc;simp only at hc;split at hc
 ·rename_i n e hu;simp only [Ae,beq_iff_eq]at hc;obtain⟨⟨h1,h2⟩,h3⟩:=hc;split at h1
  ·rename_i he;exact Lib.tabIs_of_head hg ht hu he h2 h3 h0
  ·cases h1
 ·cases hc
theorem zDi {laid:List (String × DataW Unit)} {D1 D2 D3:DataW Unit} {W:World} (h:laidMet Tryz.prog laid W)
  (e1:(laid.filter fun x=>x.1== "strconv.ErrSyntax")= [("strconv.ErrSyntax",D1)]) (i1: ∃n d,D1= .iface n d)
  (e2:(laid.filter fun x=>x.1== "strconv.ErrRange")= [("strconv.ErrRange",D2)]) (i2: ∃n d,D2= .iface n d)
  (e3:(laid.filter fun x=>x.1== "internal/strconv.uint64pow10")= [("internal/strconv.uint64pow10",D3)]) (i3:D3=Lib.tabData .u64 Lib.pow10Tab):Fs.n≤W.heap.size∧Fs.K W:=by
 have h1:=h.filter fun x=>x.1== "strconv.ErrSyntax"
 have h2:=h.filter fun x=>x.1== "strconv.ErrRange"
 have h3:=h.filter fun x=>x.1== "internal/strconv.uint64pow10"
 rw [e1]at h1;rw [e2]at h2;rw [e3,i3]at h3;have k:cF W:=⟨yU h1 (by kernel_rfl) i1,yU h2 (by kernel_rfl) i2,(zEI h3 (by kernel_rfl)).trans (by kernel_rfl)⟩
 exact⟨zEp k,k⟩
end Go.Proofs.YtlhlgboblghkdaaGreatDoor
end

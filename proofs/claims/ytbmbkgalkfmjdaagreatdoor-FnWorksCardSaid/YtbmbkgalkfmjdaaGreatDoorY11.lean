/- Parts of a proof, joined: NB, NKA, NW, NY, NSA, NO, NKC, NDD, NKD, NZ, NKE, NWK, NWL, NWM, NWN, NWO, NWR, NWP, NWT, NWQ, NWX. -/
import Derived.Test.YtbmbkgalkfmjdaaGreatDoorY10
set_option linter.unusedVariables false
set_option linter.unusedSimpArgs false
section
namespace Go.Proofs.YtbmbkgalkfmjdaaGreatDoor
open Go.RowKit
set_option maxRecDepth 100000
set_option maxHeartbeats 1000000
theorem rA {got:List BP}: ∀(l:List AA) (ws:List Ac),(∀p∈l,p.ak=2∨p.ak=3)→Dz got l ws=(3, [],(l.map Ic).foldl (fun o w=>Bk wk w o) ws)
 | [],ws,_=>rfl
 |o::l,ws,h=>by
  have hl: ∀p∈l,p.ak=2∨p.ak=3:=fun p hp=>h p (by simp [hp]);rw [Dz,List.map_cons,List.foldl_cons];rcases h o (by simp)with k|k
  ·rw [if_pos k,rA l _ hl];unfold Ic;rw [if_neg (by omega)]
  ·rw [if_neg (by omega),if_pos k,rA l _ hl];unfold Ic;rw [if_pos k]
theorem zyo {st:List Ac} {o:AA} {rest:List AA} (h2:o.ak≠2) (h3:o.ak≠3) (hr: ∀p∈rest,p.ak=2∨p.ak=3):
  FE st (o::rest)=if GX o (Dn st o.af).bb (Dn st o.af).dn=true then((rest.map Ic).foldl (fun o w=>Bk wk w o) [],true)else([],false):=by
 have hgk:(Dn st o.af).af=o.af:=by unfold Dn;cases st.find? (fun w=>w.af==o.af)<;>rfl
 have BO:Dz [] (o::rest) []=(1,o.af, []):=by rw [Dz,if_neg h2,if_neg h3,if_neg (by simp [Dp,Ox])]
 have AZ:Dp [] [Dn st o.af] o.af=((Dn st o.af).bb,(Dn st o.af).dn,true):=by unfold Dp Ox;rw [List.find?_nil,List.find?_cons,show((Dn st o.af).af==o.af)=true by rw [hgk];simp]
 have A6:Dz [Dn st o.af] (o::rest) []=if GX o (Dn st o.af).bb (Dn st o.af).dn=true then(3, [],(rest.map Ic).foldl (fun o w=>Bk wk w o) [])else(2, [], []):=by rw [Dz,if_neg h2,if_neg h3,AZ,if_pos rfl,rA rest [] hr]
 unfold FE;rw [IK,BO,if_pos rfl,IK];show(if(Dz [Dn st o.af] (o::rest) []).1=1 then _ else((Dz [Dn st o.af] (o::rest) []).2.2,(Dz [Dn st o.af] (o::rest) []).1==3))=_;rw [A6];by_cases hk:GX o (Dn st o.af).bb (Dn st o.af).dn=true
 ·rw [if_pos hk,if_pos hk,if_neg (by simp)];rfl
 ·rw [if_neg hk,if_neg hk,if_neg (by simp)];rfl
theorem qD {t:Ad} {a:Bb} (A:Fp t a) {st:List Ac} (hg:B0 st=true) (h:(Bh st (Ea t a)).2=true):Yr t a st∧QI t a st (Bh st (Ea t a)).1:=by
 obtain⟨hr,hn⟩:=Ei hg;obtain⟨o,rest,e,hw,hk,h1,h7⟩:=zzL t a;have hk67:o.ak=6∨o.ak=7:=by
  by_cases k:a.ak=1
  ·rw [h1 k];exact .inl rfl
  ·rw [h7 k];exact .inr rfl
 have hR:=zyo (st:=st) (o:=o) (rest:=rest) (by omega) (by omega) hk;rw [e]at h ⊢;unfold Bh at h ⊢;rw [hR]at h ⊢;by_cases Az:GX o (Dn st o.af).bb (Dn st o.af).dn=true
 ·rw [if_pos Az,hw]at h ⊢;by_cases hl:(Dk st ((D9 t a).foldl (fun o w=>Bk wk w o) [])).length≤24
  ·rw [if_pos ⟨rfl,hl⟩];refine⟨⟨fun k w hm he=> ?_,fun k=> ?_⟩,A.behind hr.cf⟩
   ·rw [h1 k]at Az;unfold GX Dn at Az;rw [if_pos rfl]at Az;cases ef:st.find? (fun w=>w.af==(AR t a.bz).af)with
    |some z=>rw [ef]at Az;cases Az
    |none=>rw [List.find?_eq_none]at ef;exact absurd (by simpa using he) (ef w hm)
   ·rw [h7 k]at Az;unfold GX Dn at Az;rw [if_neg (by simp)]at Az;cases ef:st.find? (fun w=>w.af==(AR t a.bq).af)with
    |none=>rw [ef]at Az;cases Az
    |some z=>
     rw [ef]at Az;simp only [Bool.true_and,beq_iff_eq]at Az;have hz:=List.mem_of_find?_eq_some ef;have Nr:z.af=(AR t a.bq).af:=by simpa using List.find?_some ef
     have vZ:=hn z hz;have:z=AR t a.bq:=by cases z;simp only at Az Nr vZ;rw [Az,Nr,vZ];rfl
     rw [←this];exact hz
  ·rw [if_neg fun q=>hl q.2]at h;cases h
 ·rw [if_neg Az]at h;rw [if_neg (by simp)]at h;cases h
theorem zBv {t:Ad} {a:Bb} {n:Af} {x:Au} {st:List Ac} {low:Int} (A:Fo t a n x) (hg:B0 st=true) (hl:low=0∧x.aq≤1∨low=1∧1≤x.aq∨low=2∧2≤x.aq)
  (h:holds t n x low st=true):holds t n x low (Bh st (Ea t a)).1=true:=by
 cases hd:(Bh st (Ea t a)).2 with
 |true=>obtain⟨hA,hB⟩:=qD A.ow hg hd;exact zJM A hg hA hB hl h
 |false=>
  have:(Bh st (Ea t a)).1=st:=by
   unfold Bh at hd ⊢;split at hd
   ·cases hd
   ·rename_i q;rw [if_neg q]
  rw [this];exact h
theorem zD3 {t:Ad} {n:Af} {c:Int} (h:B8 t n=true):(Dx (Da t (Cj t n) c) n).aq=c:=by
 obtain⟨x,hx,_⟩:=KA h;have hl:=(Ok hx.at_).2.2;have h0:=(Ok hx.at_).1;have e1: ∀l:List Au,BH (fun x:Au=>x.ae==n) l=BH (· ==n) (l.map (·.ae)):=fun l=>by
  induction l with
  |nil=>rfl
  |cons x l ih=>rw [List.map_cons,N6,N6,ih]
 have hk:Cj (Da t (Cj t n) c) n=Cj t n:=by unfold Cj;rw [e1,e1,Ws]
 have Jj:(Cj t n).toNat<t.ah.length:=by have:BH (fun y:Au=>y.ae==n) t.ah=Cj t n:=rfl;rw [this]at hl h0;omega
 unfold Dx;rw [hk];unfold Da;dsimp only;rw [List.getElem?_set_self Jj];rfl
theorem qR {α:Type}: ∀(xs a:List α),xs.foldl (fun o x=>o++ [x]) a=a++xs
 | [],a=>by simp
 |x::xs,a=>by rw [List.foldl_cons,qR xs (a++ [x])];simp
theorem zK {o p:List Ad} (h:o.length≤2000001) (hn:p.length≤5):((o.length:Int)+(p.length:Int))*64≤140737488355328∧(o.length:Int)+(p.length:Int)≤140737488355328:=by omega
theorem zzW {s:Aq} (hS:DK s):VU s=some s:=by
 have h1:=hS.at_;have h2:=hS.store.1;have h3:=hS.ways;have c1:lT s.bp=some s.bp:=Ob (by omega) (by omega);have c2:PK s.ao=some s.ao:=Ob (by omega) (by omega);unfold VU;rw [c1,c2,Aa,Aa];have h:=Gb (xs:=s.aj) (body:=fun q:Int × List Ad=>Sk s s.bp s.ao q.1 q.2) (fun i (o:List Ad)=>(i,o)) (fun o t=>o++ [t]) (fun o=>some ⟨s.ae,o,s.bp,s.ao⟩) (fun i o=>o.length=i)
  (fun i hi o hI=>by have hI:o.length=i:=hI;refine⟨?_,by show List.length _=_;rw [Ar,AH];omega⟩;show Sk s s.bp s.ao i o=_;unfold Sk;rw [if_pos (by simpa using hi),AL hi,Aa,tV (hS.way _ (List.getElem_mem hi)),Aa,AQ (zK (by omega) (by simp)),Bi hi (by omega)])
  (fun o _=>by show Sk s s.bp s.ao s.aj.length o=_;unfold Sk;rw [if_neg (by simp)]) (s:= []) rfl
 rw [qR]at h;exact h.1
theorem W7 {s:Aq} (hS:DK s):SS s=some s:=by
 have h1:=hS.at_;have h2:=hS.store.1;have h3:=hS.ways;have c1:bA s.bp=some s.bp:=by unfold bA;rw [AQ (by rw [List.length_nil];omega)]
 have hq:((([]:List Ac).length:Int)+((s.ao).length:Int))*40≤140737488355328∧(([]:List Ac).length:Int)+((s.ao).length:Int)≤140737488355328:=by rw [List.length_nil];omega
 unfold SS;rw [c1,Aa,AQ hq];have h:=Gb (xs:=s.aj) (body:=fun q:Int × List Ad=>Su s s.bp q.1 q.2) (fun i (o:List Ad)=>(i,o)) (fun o t=>o++ [t]) (fun o=>some ⟨s.ae,o,s.bp,s.ao⟩) (fun i o=>o.length=i)
  (fun i hi o hI=>by have hI:o.length=i:=hI;refine⟨?_,by show List.length _=_;rw [Ar,AH];omega⟩;show Su s s.bp i o=_;unfold Su;rw [if_pos (by simpa using hi),AL hi,Aa,kE (hS.way _ (List.getElem_mem hi)),Aa,AQ (zK (by omega) (by simp)),Bi hi (by omega)])
  (fun o _=>by show Su s s.bp s.aj.length o=_;unfold Su;rw [if_neg (by simp)]) (s:= []) rfl
 rw [qR]at h;exact h.1
def bare (a:Bb):Bool:=((a.ak==0)&&((a.bq.ay.length:Int)==0))&&((a.bz.ay.length:Int)==0)
structure IL (s:Aq) (a:C4):Prop where
 srv:0≤a.a8∧a.a8≤(s.bp.length:Int)-1
 step:a.bg=0∨a.bg=1∨a.bg= -1
 act:a.bg=0→ ∃y t,getI s.bp a.a8=some y∧getI s.aj y=some t∧t∈s.aj∧HO t a.au=true
theorem IU {t:Ad} {n:Af} (h:B8 t n=true):A0 t=true:=by unfold B8 at h;simp only [Ae]at h;exact h.1
theorem TN {s:Aq} (hg:BN s) {i:Int} (h:0≤i∧i≤(s.bp.length:Int)-1): ∃y t,getI s.bp i=some y∧getI s.aj y=some t∧t∈s.aj∧0≤y∧y≤(s.aj.length:Int)-1:=by obtain⟨y,e1,hy,_⟩:=IX (xs:=s.bp) h.1 (by omega);have hb:=hg.2.2.2.2.2.1 y hy;obtain⟨t,e2,ht,_⟩:=IX (xs:=s.aj) hb.1 (by omega);exact⟨y,t,e1,e2,ht,hb.1,hb.2⟩
def Qm (s:Aq) (t:Ad) (a:C4):Bool:=
 BQ a.a8 0 ((s.bp.length:Int)-1)&&(if a.bg=0 then HO t a.au else if a.bg=1∨a.bg= -1 then bare a.au else false)
def EC (s:Aq) (i:Int):Ad:=(getI s.aj ((getI s.bp i).getD 0)).getD Nt
theorem zA3 {s:Aq} {a:C4} (hg:BN s) (hA:Fk a.au):Z4 s a=some (Qm s (EC s a.a8) a):=by
 have h3:=Ca.1 hg.2.2.2.2.1;have w:IntKind.i64.wrap ((s.bp.length:Int)-1)=(s.bp.length:Int)-1:=Ba (by omega) (by omega);unfold Z4 Qm;rw [w,Ir,Aa];cases hv:BQ a.a8 0 ((s.bp.length:Int)-1)with
 |false=>rfl
 |true=>
  obtain⟨y,t,e1,e2,ht,_,_⟩:=TN hg (Ca.1 hv);have hc:=Jw (IU (hg.2.2.1 t ht));have et:EC s a.a8=t:=by unfold EC;rw [e1,Option.getD_some,e2];rfl
  rw [et,if_neg (by simp),Bool.true_and];by_cases h0:a.bg=0
  ·rw [if_neg (by simp [h0]),if_pos (by simpa using h0),if_pos h0,e1,Aa,e2,Aa,qH (by omega) hA];rfl
  ·rw [if_neg h0];by_cases h1:a.bg=1∨a.bg= -1
   ·rw [if_pos (by simpa using h1),if_pos h1];rfl
   ·rw [if_neg (by simpa using h1),if_neg h1,if_neg (by simpa using h0)]
theorem zBp {s:Aq} {a:C4} (hg:BN s) (hA:Fk a.au):YY s a=some (Qm s (EC s a.a8) a):=by
 have h3:=Ca.1 hg.2.2.2.2.1;have w:IntKind.i64.wrap ((s.bp.length:Int)-1)=(s.bp.length:Int)-1:=Ba (by omega) (by omega);unfold YY Qm;rw [w,Ld,Aa];cases hv:BQ a.a8 0 ((s.bp.length:Int)-1)with
 |false=>rfl
 |true=>
  obtain⟨y,t,e1,e2,ht,_,_⟩:=TN hg (Ca.1 hv);have hc:=Jw (IU (hg.2.2.1 t ht));have et:EC s a.a8=t:=by unfold EC;rw [e1,Option.getD_some,e2];rfl
  have L1:GN s a.a8=some t:=by unfold GN;rw [e1,Aa,e2];rfl
  rw [et,if_neg (by simp),Bool.true_and];by_cases h0:a.bg=0
  ·rw [if_pos (by simpa using h0),if_pos h0,L1,Aa,zA4 (by omega) hA];rfl
  ·rw [if_neg (by simpa using h0),if_neg h0];by_cases h1:a.bg=1
   ·rw [if_pos (by simpa using h1),if_pos (.inl h1)];rfl
   ·rw [if_neg (by simpa using h1)];by_cases h2:a.bg= -1
    ·rw [if_pos (by simpa using h2),if_pos (.inr h2)];rfl
    ·rw [if_neg (by simpa using h2),if_neg (by simp [h1,h2])]
theorem zIj {s:Aq} {a:C4} (hg:BN s) (h:Qm s (EC s a.a8) a=true):IL s a:=by
 unfold Qm at h;rw [Ae]at h;have hv:=Ca.1 h.1;obtain⟨y,t,e1,e2,ht,_,_⟩:=TN hg hv;have et:EC s a.a8=t:=by unfold EC;rw [e1,Option.getD_some,e2];rfl
 have h2:=h.2;rw [et]at h2;by_cases h0:a.bg=0
 ·rw [if_pos h0]at h2;exact⟨hv, .inl h0,fun _=>⟨y,t,e1,e2,ht,h2⟩⟩
 ·rw [if_neg h0]at h2;by_cases h1:a.bg=1∨a.bg= -1
  ·exact⟨hv, .inr h1,fun h=>absurd h h0⟩
  ·rw [if_neg h1]at h2;cases h2
structure Ly (s r:Aq):Prop where
 br:BN r
 small:DK r
 name:r.ae=s.ae
 ways:r.aj=s.aj
 at_:r.bp.length=s.bp.length
theorem Ql {s:Aq} {a:C4} (hS:DK s) (hg:BN s) (hA:Fk a.au) (Cb:IL s a): ∃r:Aq × Bool,G7 s a=some r∧Sc s a=some r∧Ly s r.1:=by
 obtain⟨y,t,e1,e2,ht,Ib,hy1⟩:=TN hg Cb.srv;have h1:=hg.1;have h4:=hg.2.1;have w:IntKind.i64.wrap ((s.aj.length:Int)-1)=(s.aj.length:Int)-1:=Ba (by omega) (by omega);unfold G7 Sc;rw [W7 hS,zzW hS,Aa,Aa,w];by_cases h0:a.bg=0
 ·obtain⟨y',t',q1,q2,q3,FI⟩:=Cb.act h0;rw [e1]at q1;cases q1;rw [e2]at q2;cases q2;have hI:=hg.2.2.1 t ht;have F0:=IU hI;have hc:=Jw F0;have QX:=hS.way t ht;have XI:=zGv hA FI;have hR:=hg.2.2.2.2.2.2;obtain⟨ol,oo⟩:=wL F0 FI;have L1:GN s a.a8=some t:=by
   unfold GN;rw [e1,Aa,e2];rfl
  have hD:SY t s.ao a.au=some ((Bh s.ao (Ea t a.au)).1,(Bh s.ao (Ea t a.au)).2,true):=by
   have eF:SX t a.au=some true:=by unfold SX;rw [Qq QX,Aa,F0,if_pos rfl,qH (by omega) hA,FI];rfl
   unfold SY;rw [eF,Aa,if_pos rfl,Qw hS.store,Aa,hR,if_neg (by simp),zO QX F0 XI,Aa,Yt ol oo hR];rfl
  have EI:=Mr ol oo hR;rw [if_neg (by simp [h0]),if_neg (by simp [h0]),e1,Aa,e2,Aa,hD,L1,Aa,Aa,zIX QX F0 XI,Aa,zyI ol oo hR,Aa];refine⟨_,rfl,rfl,⟨⟨hg.1,hg.2.1,hg.2.2.1,hg.2.2.2.1,hg.2.2.2.2.1,hg.2.2.2.2.2.1,EI⟩,⟨hS.name,hS.ways,hS.way,hS.at_, ?_⟩,rfl,rfl,rfl⟩⟩;have hr:=(Ei EI).1;have J8:=hr.len;exact aW (by show(Bh s.ao (Ea t a.au)).1.length≤2000000;omega) hr.br
 ·have AZ:a.bg=1∨a.bg= -1:=by rcases Cb.step with h|h|h;exact absurd h h0;exact .inl h;exact .inr h
  have w2:IntKind.i64.wrap (y+a.bg)=y+a.bg:=Ba (by omega) (by omega);rw [if_pos (by simpa using h0),if_pos (by simpa using h0)];simp only [e1,Aa,w2,Ir,Ld];cases hv:BQ (y+a.bg) 0 ((s.aj.length:Int)-1)with
  |false=>exact⟨_,rfl,rfl,⟨hg,hS,rfl,rfl,rfl⟩⟩
  |true=>
   have Dw:=Ca.1 hv;refine⟨_,rfl,rfl,⟨⟨hg.1,hg.2.1,hg.2.2.1,hg.2.2.2.1, ?_,fun z hz=> ?_,hg.2.2.2.2.2.2⟩,⟨hS.name,hS.ways,hS.way, ?_,hS.store⟩,rfl,rfl,List.length_set⟩⟩
   ·show BQ (((s.bp.set (a.a8).toNat (y+a.bg)).length:Nat):Int) 1 3=true;rw [List.length_set];exact hg.2.2.2.2.1
   ·rcases List.mem_or_eq_of_mem_set hz with hz|rfl
    ·exact hg.2.2.2.2.2.1 z hz
    ·exact Dw
   ·show(s.bp.set (a.a8).toNat (y+a.bg)).length≤2000000;rw [List.length_set];exact hS.at_
def OC:Aq:=⟨[], [], [], []⟩
def E5 (l:List Int):Bool:=l.all fun x=>l.all fun y=> !decide (x-y>1)
theorem tC {l:List Int} (hl:l.length≤2000000) (hb: ∀y∈l,0≤y∧y≤3):Sm l=some (E5 l):=by
 unfold Sm;have Ch: ∀(i:Nat) (hi:i<l.length),Ay (fun s:Int=>PV l i l[i] s) 0=some (if(l.all fun y=> !decide (l[i]-y>1))=true then .inl ((i+1:Nat):Int)else .inr (some false)):=by
  intro i hi;have hx:=hb _ (List.getElem_mem hi);rw [Kx (xs:=l) (body:=fun s:Int=>PV l i l[i] s) (fun y=> !decide (l[i]-y>1)) (.inr (some false)) (nG i) (fun j hj=>by
   have hy:=hb _ (List.getElem_mem hj);have w:IntKind.i64.wrap (l[i]-l[j])=l[i]-l[j]:=Ba (by omega) (by omega);show PV l i l[i] j=_;unfold PV;rw [if_pos (by simpa using hj),AL hj,Aa,w,Bi hj (by omega)];cases decide (l[i]-l[j]>1)<;>rfl) (by
   show PV l i l[i] l.length=_;unfold PV;rw [if_neg (by simp)])]
  unfold nG;rw [Bi hi (by omega)];split<;>rfl
 rw [Kx (xs:=l) (body:=fun s:Int=>Sa l s) (fun x=>l.all fun y=> !decide (x-y>1)) false (some true) (fun i hi=>by
  show Sa l i=_;unfold Sa;rw [if_pos (by simpa using hi),AL hi,Aa];exact Ch i hi) (by
  show Sa l l.length=_;unfold Sa;rw [if_neg (by simp)])]
 unfold E5;cases(l.all fun x=>l.all fun y=> !decide (x-y>1))<;>rfl
def Mb (a:Int) (l:List Int):Int:=l.foldl (fun m y=>bif decide (y>m)then y else m) a
def L9 (a:Int) (l:List Int):Int:=l.foldl (fun m y=>bif decide (y<m)then y else m) a
theorem yN: ∀(l:List Int) (a:Int),Mb a l∈a::l∧ ∀x∈a::l,x≤Mb a l
 | [],a=>by simp [Mb]
 |y::l,a=>by
  obtain⟨h1,h2⟩:=yN l (bif decide (y>a)then y else a);have e:Mb a (y::l)=Mb (bif decide (y>a)then y else a) l:=rfl;rw [e];have ha:a≤(bif decide (y>a)then y else a)∧y≤(bif decide (y>a)then y else a):=by
   by_cases h:y>a
   ·rw [decide_eq_true h];exact⟨by simp;omega,by simp⟩
   ·rw [decide_eq_false h];exact⟨by simp,by simp;omega⟩
  have hm:=h2 _ (List.mem_cons_self);refine⟨?_,fun x hx=> ?_⟩
  ·rcases Ag.1 h1 with h|h
   ·rw [h];by_cases hc:y>a
    ·rw [decide_eq_true hc];simp
    ·rw [decide_eq_false hc];simp
   ·simp [h]
  ·rcases Ag.1 hx with rfl|hx
   ·omega
   ·rcases Ag.1 hx with rfl|hx
    ·omega
    ·exact h2 x (by simp [hx])
theorem yZ: ∀(l:List Int) (a:Int),L9 a l∈a::l∧ ∀x∈a::l,L9 a l≤x
 | [],a=>by simp [L9]
 |y::l,a=>by
  obtain⟨h1,h2⟩:=yZ l (bif decide (y<a)then y else a);have e:L9 a (y::l)=L9 (bif decide (y<a)then y else a) l:=rfl;rw [e];have ha:(bif decide (y<a)then y else a)≤a∧(bif decide (y<a)then y else a)≤y:=by
   by_cases h:y<a
   ·rw [decide_eq_true h];exact⟨by simp;omega,by simp⟩
   ·rw [decide_eq_false h];exact⟨by simp,by simp;omega⟩
  have hm:=h2 _ (List.mem_cons_self);refine⟨?_,fun x hx=> ?_⟩
  ·rcases Ag.1 h1 with h|h
   ·rw [h];by_cases hc:y<a
    ·rw [decide_eq_true hc];simp
    ·rw [decide_eq_false hc];simp
   ·simp [h]
  ·rcases Ag.1 hx with rfl|hx
   ·omega
   ·rcases Ag.1 hx with rfl|hx
    ·omega
    ·exact h2 x (by simp [hx])
theorem zJb {l:List Int} {a:Int} (hl:l.length≤2000000):YS (a::l)=some (Mb a l):=by
 have key: ∀(n q:Nat) (m:Int),q+n=(a::l).length→Ay (fun s:Int × Int=>PH (a::l) s.1 s.2) (m,(q:Int))=some (Mb m ((a::l).drop q)):=by
  intro n
  induction n with
  |zero=>intro q m hq;rw [List.drop_eq_nil_of_le (by omega)];refine Df ?_;show PH (a::l) m q=_;unfold PH;rw [if_neg (by rw [decide_eq_true_eq];omega)];rfl
  |succ n ih=>
   intro q m hq;have Ak:q<(a::l).length:=by omega
   have DN:(a::l).length=l.length+1:=Ao;have e:PH (a::l) m q=some (.inl ((bif decide ((a::l)[q]>m)then(a::l)[q]else m),((q+1:Nat):Int))):=by unfold PH;rw [if_pos (decide_eq_true (by omega)),AL Ak,Aa,Bi Ak (by omega)]
   rw [DF (body:=fun s:Int × Int=>PH (a::l) s.1 s.2) e,ih (q+1) _ (by omega),List.drop_eq_getElem_cons Ak];rfl
 unfold YS;rw [if_neg (by rw [decide_eq_true_eq,Ao];omega),show getI (a::l) 0=some a from rfl,Aa];exact key l.length 1 a (by rw [Ao];omega)
theorem zJh {l:List Int} {a:Int} (hl:l.length≤2000000):YV (a::l)=some (L9 a l):=by
 have key: ∀(n q:Nat) (m:Int),q+n=(a::l).length→Ay (fun s:Int × Int=>PI (a::l) s.1 s.2) (m,(q:Int))=some (L9 m ((a::l).drop q)):=by
  intro n
  induction n with
  |zero=>intro q m hq;rw [List.drop_eq_nil_of_le (by omega)];refine Df ?_;show PI (a::l) m q=_;unfold PI;rw [if_neg (by rw [decide_eq_true_eq];omega)];rfl
  |succ n ih=>
   intro q m hq;have Ak:q<(a::l).length:=by omega
   have DN:(a::l).length=l.length+1:=Ao;have e:PI (a::l) m q=some (.inl ((bif decide ((a::l)[q]<m)then(a::l)[q]else m),((q+1:Nat):Int))):=by unfold PI;rw [if_pos (decide_eq_true (by omega)),AL Ak,Aa,Bi Ak (by omega)]
   rw [DF (body:=fun s:Int × Int=>PI (a::l) s.1 s.2) e,ih (q+1) _ (by omega),List.drop_eq_getElem_cons Ak];rfl
 unfold YV;rw [if_neg (by rw [decide_eq_true_eq,Ao];omega),show getI (a::l) 0=some a from rfl,Aa];exact key l.length 1 a (by rw [Ao];omega)
theorem xO {s:Aq} (hl:s.bp.length≤2000000) (h1:1≤s.bp.length) (hb: ∀y∈s.bp,0≤y∧y≤3):RD s=some (E5 s.bp):=by
 unfold RD;generalize s.bp=l at hl h1 hb;cases l with
 |nil=>simp at h1
 |cons a l=>
  rw [Ao]at hl;rw [zJb (by omega),zJh (by omega),Aa,Aa];obtain⟨x1,x2⟩:=yN l a;obtain⟨n1,n2⟩:=yZ l a;have b1:=hb _ x1;have b2:=hb _ n1;have w:IntKind.i64.wrap (Mb a l-L9 a l)=Mb a l-L9 a l:=Ba (by omega) (by omega);rw [w];congr 1;unfold E5;rw [Bool.eq_iff_iff];simp only [decide_eq_true_eq,AK,Bool.not_eq_true',decide_eq_false_iff_not];constructor
  ·intro h x hx y hy;have:=x2 x hx;have:=n2 y hy;omega
  ·intro h;have:=h _ x1 _ n1;omega
theorem zEQ {s:Aq} {a:C4} (hS:DK s) (hg:BN s) (hA:Fk a.au) (Cb:IL s a): ∃r,Qb s a=some r∧Zq s a=some r:=by
 obtain⟨r,k1,k2,hn⟩:=Ql hS hg hA Cb;unfold Qb Zq;rw [k1,k2,Aa,Aa];by_cases h:r.2=true
 ·rw [if_pos h,if_pos h];have h3:=Ca.1 hn.br.2.2.2.2.1;have hw:=hn.br.2.1;have hb: ∀y∈r.1.bp,0≤y∧y≤3:=fun y hy=>by
   have:=hn.br.2.2.2.2.2.1 y hy;omega
  have hl:=hn.small.at_;rw [tC hl hb,xO hl (by omega) hb,Aa,Aa];obtain⟨q,q1,q2⟩:=zDt hn.small hn.br;by_cases hc:E5 r.1.bp=true
  ·rw [if_pos hc,if_pos hc,q1,q2];exact⟨q,rfl,rfl⟩
  ·rw [if_neg hc,if_neg hc];exact⟨_,rfl,rfl⟩
 ·rw [if_neg h,if_neg h];exact⟨_,rfl,rfl⟩
theorem Fj {t:Ad} {n:Af} (h:B8 t n=true):EO t n (Dx t n)∧BD t n=(Dx t n).aq∧Dx t n∈t.ah∧0≤BD t n∧BD t n≤3∧A0 t=true:=by obtain⟨x,hx,e,h0,h3,hg⟩:=KA h;rw [zY hx];exact⟨hx,e,tH hx.at_,by omega,by omega,hg⟩
theorem sF {n:Af}: ∀l:List Au,BH (fun x:Au=>x.ae==n) l=BH (· ==n) (l.map (·.ae))
 | []=>rfl
 |x::l=>by rw [List.map_cons,N6,N6,sF l]
theorem zGR (t:Ad) (n:Af) (k c:Int):Cj (Da t k c) n=Cj t n:=by unfold Cj;rw [sF,sF,Ws]
theorem zF {t:Ad} {n:Af} {c:Int} (h:B8 t n=true):Dx (Da t (Cj t n) c) n={Dx t n with aq:=c}:=by
 have hx:=(Fj h).1;have hl:=(Ok hx.at_).2.2;have h0:=(Ok hx.at_).1;have hk:(Cj t n).toNat<t.ah.length:=by have:BH (fun y:Au=>y.ae==n) t.ah=Cj t n:=rfl;rw [this]at hl h0;omega
 unfold Dx;rw [zGR];unfold Da;dsimp only;rw [List.getElem?_set_self hk];rfl
theorem zHF {t:Ad} {n:Af} {c:Int} (h:B8 t n=true):BD (Da t (Cj t n) c) n=c:=by have:BD (Da t (Cj t n) c) n=(Dx (Da t (Cj t n) c) n).aq:=rfl;rw [this,zF h]
theorem zHP {t:Ad} {n:Af} {b:Int} (h:B8 t n=true):(way t (Cj t n) (BD t n) b).map (fun w=>BD w n)=BD t n::Fm 3 (BD t n) b:=by
 unfold way;rw [List.map_cons,List.map_map];congr 1
 conv=>rhs;rw [←List.map_id (Fm 3 (BD t n) b)]
 exact List.map_congr_left fun c _=>zHF h
def zGm (a b i j:Nat):Bool:=match((a:Int)::Fm 3 a b)[i]?,((a:Int)::Fm 3 a b)[j]? with
 |some x,some y=>decide (x≤y+1)
 |_,_=>true
theorem zE6: ∀a b i j:Fin 4,i.val≤j.val+1→j.val≤i.val+1→zGm a.val b.val i.val j.val=true:=by decide
theorem zBV {a b:Int} (QY:0≤a) (Ud:a≤3) (H2:0≤b) (Gu:b≤3) {i j:Nat} (hi:i<4) (hj:j<4) (h1:i≤j+1) (h2:j≤i+1) {x y:Int}
  (hx:(a::Fm 3 a b)[i]?=some x) (hy:(a::Fm 3 a b)[j]?=some y):x≤y+1:=by
 have h:=zE6 ⟨a.toNat,by omega⟩ ⟨b.toNat,by omega⟩ ⟨i,hi⟩ ⟨j,hj⟩ h1 h2;unfold zGm at h;dsimp only at h;rw [Int.toNat_of_nonneg QY,Int.toNat_of_nonneg H2,hx,hy]at h;simpa using h
theorem zIB {s:Aq} (hg:BN s) {y:Int} (h0:0≤y) (h1:y≤(s.aj.length:Int)-1): ∃t,getI s.aj y=some t∧t∈s.aj∧y.toNat<4∧
  (BD (AN s) s.ae::Fm 3 (BD (AN s) s.ae) (BD (Ip s) s.ae))[y.toNat]?=some (BD t s.ae):=by
 obtain⟨t,e,ht,e2⟩:=IX (xs:=s.aj) h0 (by omega);have hI:=hg.2.2.1 _ (Kv (s:=s) hg.1).2;have h4:=hg.2.1;refine⟨t,e,ht,by omega, ?_⟩;rw [←zHP hI,List.getElem?_map];have hw:way (AN s) (Cj (AN s) s.ae) (BD (AN s) s.ae) (BD (Ip s) s.ae)=s.aj:=hg.2.2.2.1.symm;rw [hw,e2];rfl
theorem qO {s:Aq} (hg:BN s) {u:Int} (h:u∈CS s): ∃y t,y∈s.bp∧getI s.aj y=some t∧t∈s.aj∧u=BD t s.ae∧y.toNat<4∧0≤y∧
  (BD (AN s) s.ae::Fm 3 (BD (AN s) s.ae) (BD (Ip s) s.ae))[y.toNat]?=some u:=by
 obtain⟨y,hy,rfl⟩:=List.mem_map.1 h;have hb:=hg.2.2.2.2.2.1 y hy;obtain⟨t,e,ht,h4,e2⟩:=zIB hg hb.1 hb.2;refine⟨y,t,hy,e,ht, ?_,h4,hb.1, ?_⟩<;>rw [e]
 ·rfl
 ·exact e2
theorem zyJ {s:Aq} (hg:BN s) (hc:E5 s.bp=true): ∀p∈CS s,∀q∈CS s,p≤q+1:=by intro p hp q hq;obtain⟨y,_,hy,_,_,_,y4,y0,e1⟩:=qO hg hp;obtain⟨z,_,hz,_,_,_,z4,z0,e2⟩:=qO hg hq;unfold E5 at hc;have c1:=AK.1 (AK.1 hc y hy) z hz;have c2:=AK.1 (AK.1 hc z hz) y hy;simp only [Bool.not_eq_true',decide_eq_false_iff_not]at c1 c2;have f:=Fj (hg.2.2.1 _ (Kv (s:=s) hg.1).2);have l:=Fj (hg.2.2.1 _ (sN (s:=s) hg.1 hg.2.1).2);exact zBV f.2.2.2.1 f.2.2.2.2.1 l.2.2.2.1 l.2.2.2.2.1 y4 z4 (by omega) (by omega) e1 e2
theorem zDX {s:Aq} (hg:BN s): ∀p∈CS s,0≤p∧p≤3:=by intro p hp;obtain⟨_,t,_,_,ht,rfl,_⟩:=qO hg hp;have f:=Fj (hg.2.2.1 t ht);exact⟨f.2.2.2.1,f.2.2.2.2.1⟩
theorem zHf {st:List Int} (h: ∀p∈st,0≤p∧p≤3) (hn: ∀p∈st,∀q∈st,p≤q+1) {u:Int} (hu:u∈st):Hh st=0∧u≤1∨Hh st=1∧1≤u∨Hh st=2∧2≤u:=by
 have h1:=h u hu;unfold Hh;by_cases k3:st.contains 3=true
 ·rw [if_pos k3];have:=hn 3 (by simpa using k3) u hu;omega
 ·rw [if_neg k3];by_cases k0:st.contains 0=true
  ·rw [if_pos k0];have:=hn u hu 0 (by simpa using k0);omega
  ·rw [if_neg k0];have:u≠0:=fun e=>k0 (by rw [←e];simpa using hu);omega
theorem zvi {t t':Ad} {n:Af} {x x':Au} {lv:Int} {st:List Ac} (h1:t.ae=t'.ae) (h2:t.ar=t'.ar) (h3:x.bj=x'.bj):holds t n x lv st=holds t' n x' lv st:=by cases t;cases t';cases x;cases x';dsimp only at h1 h2 h3;subst h1;subst h2;subst h3;rfl
theorem rH {s:Aq} (hg:BN s) {t:Ad} (ht:t∈s.aj):t.ae=(AN s).ae∧t.ar=(AN s).ar∧(Dx t s.ae).bj=(Dx (AN s) s.ae).bj:=by
 have hI:=hg.2.2.1 _ (Kv (s:=s) hg.1).2;rw [hg.2.2.2.1]at ht;rcases Ag.1 ht with rfl|ht
 ·exact⟨rfl,rfl,rfl⟩
 ·obtain⟨c,_,rfl⟩:=List.mem_map.1 ht;refine⟨rfl,rfl, ?_⟩;rw [zF hI]
theorem xF {s:Aq} {a:C4} (hS:DK s) (hg:BN s) (hA:Fk a.au) (Cb:IL s a) (h0:a.bg=0): ∃y t,getI s.bp a.a8=some y∧getI s.aj y=some t∧t∈s.aj∧HO t a.au=true∧
  G7 s a=some (⟨s.ae,s.aj,s.bp,(Bh s.ao (Ea t a.au)).1⟩,(Bh s.ao (Ea t a.au)).2):=by
 obtain⟨y,t,e1,e2,ht,FI⟩:=Cb.act h0;have hI:=hg.2.2.1 t ht;have F0:=IU hI;have hc:=Jw F0;have QX:=hS.way t ht;have XI:=zGv hA FI;have hR:=hg.2.2.2.2.2.2;obtain⟨ol,oo⟩:=wL F0 FI;refine⟨y,t,e1,e2,ht,FI, ?_⟩;have hD:SY t s.ao a.au=some ((Bh s.ao (Ea t a.au)).1,(Bh s.ao (Ea t a.au)).2,true):=by
  have eF:SX t a.au=some true:=by unfold SX;rw [Qq QX,Aa,F0,if_pos rfl,qH (by omega) hA,FI];rfl
  unfold SY;rw [eF,Aa,if_pos rfl,Qw hS.store,Aa,hR,if_neg (by simp),zO QX F0 XI,Aa,Yt ol oo hR];rfl
 unfold G7;rw [W7 hS,Aa,if_neg (by simp [h0]),e1,Aa,e2,Aa,hD];rfl
theorem zIH {s:Aq} {a:C4} (hS:DK s) (hg:BN s) (hA:Fk a.au) (Cb:IL s a) {r:Aq × Bool} (hr:G7 s a=some r):Qb s a=some (r.2&&(E5 r.1.bp&&GR r.1)):=by
 obtain⟨r',k1,k2,hn⟩:=Ql hS hg hA Cb;rw [hr]at k1;cases k1;unfold Qb;rw [hr,Aa];by_cases h:r.2=true
 ·rw [if_pos h];have hw:=hn.br.2.1;have hb: ∀y∈r.1.bp,0≤y∧y≤3:=fun y hy=>by
   have:=hn.br.2.2.2.2.2.1 y hy;omega
  rw [tC hn.small.at_ hb,Aa,(dC hn.small hn.br).1,h];cases E5 r.1.bp<;>rfl
 ·rw [if_neg h];rw [Bool.not_eq_true]at h;rw [h];rfl
theorem zu8 {s:Aq} {a:C4} (hS:DK s) (hg:BN s) (hA:Fk a.au) (Cb:IL s a) {r:Aq × Bool} (hr:G7 s a=some r) (hh:GR s=true) (hc:E5 s.bp=true)
  (hm:a.bg≠0→E5 r.1.bp=true∧GR r.1=true):E5 r.1.bp=true∧GR r.1=true:=by
 by_cases h0:a.bg=0
 ·obtain⟨y,t,e1,e2,ht,FI,e⟩:=xF hS hg hA Cb h0;rw [hr]at e;cases e;refine⟨hc, ?_⟩;have hI:=hg.2.2.1 t ht;have f:=Fj hI;have hu:BD t s.ae∈CS s:=by
   refine List.mem_map.2 ⟨y,tH e1, ?_⟩;rw [e2];rfl
  have hk:=zHf (zDX hg) (zyJ hg hc) hu;rw [f.2.1]at hk;have A:=zI f.2.2.2.2.2 f.2.2.1 f.1.name FI;obtain⟨w1,w2,w3⟩:=rH hg ht;unfold GR at hh;rw [←zvi w1 w2 w3]at hh;have hd:=zBv A hg.2.2.2.2.2.2 hk hh;rw [zvi w1 w2 w3]at hd;exact hd
 ·exact hm h0
def OA (t:Ad) (st:List Ac):List Ac:=st.filter (Cq t)
theorem NY {t:Ad} {st:List Ac} {w:Ac}:w∈OA t st↔w∈st∧Cq t w=true:=List.mem_filter
theorem Oh (t:Ad) (st:List Ac):rows t st=(OA t st).map B6:=rfl
theorem Qf {t:Ad} {st:List Ac} (h:Dc st):Dc (OA t st):=El.filter h _
theorem zxe {l:List Ac} {w:Ac} (h: ∀y∈l,y.af≠w.af):(Bk wk w l).length=l.length+1:=by
 induction l with
 |nil=>rfl
 |cons y l ih=>
  rw [Bk];split
  ·rfl
  ·split
   ·rename_i e;exact absurd e.symm (h y (by simp))
   ·rw [Ao,ih fun z hz=>h z (by simp [hz]),Ao]
theorem zyq {l:List Ac} {w:Ac} (hl:Dc l) (h: ∃y∈l,y.af=w.af):(Bk wk w l).length=l.length:=by
 induction l with
 |nil=>obtain⟨y,hy,_⟩:=h;simp at hy
 |cons y l ih=>
  obtain⟨r1,r2⟩:=Tn hl;obtain⟨z,hz,e⟩:=h;rw [Bk];split
  ·rename_i hb;exfalso;rcases Ag.1 hz with rfl|hz
   ·exact FF hb e.symm
   ·exact FF (Gc hb (r1 z hz)) e.symm
  ·split
   ·rfl
   ·rename_i A3;rw [Ao,Ao,ih r2];rcases Ag.1 hz with rfl|hz
    ·exact absurd e.symm A3
    ·exact⟨z,hz,e⟩
theorem zyN {l:List Ac} {k:Af} (hl:Dc l) (h: ∃y∈l,y.af=k):(l.filter fun w=>w.af !=k).length+1=l.length:=by
 induction l with
 |nil=>obtain⟨y,hy,_⟩:=h;simp at hy
 |cons y l ih=>
  obtain⟨r1,r2⟩:=Tn hl;rw [List.filter_cons];by_cases hy:y.af=k
  ·rw [if_neg (by simp [hy]),List.filter_eq_self.2 fun z hz=>by
    have:=FF (r1 z hz);rw [hy]at this;simpa using fun e=>this e.symm]
   rfl
  ·rw [if_pos (by simpa using hy),Ao,Ao];obtain⟨z,hz,e⟩:=h;rcases Ag.1 hz with rfl|hz
   ·exact absurd e hy
   ·have:=ih r2 ⟨z,hz,e⟩;omega
structure Vn (t:Ad) (a:Bb) (st st':List Ac):Prop where
 act:Fp t a
 pa:QI t a st st'
 cf:Dc st
 oc:Dc st'
 gone: ∀w∈st,w.bh=false
 ahead:Yr t a st
section
variable {t:Ad} {a:Bb} {st st':List Ac} (H:Vn t a st st')
include H
theorem Vn.jc (k:a.ak≠2):OA t st'=Bk wk (AR t a.bz) (OA t st):=by
 refine El.ext (key:=wk) (Qf H.oc) (Wx (Qf H.cf)) fun y=> ?_;rw [Tu (Qf H.cf),NY,NY,H.pa y];have A2:=H.act.jv k;constructor
 ·rintro⟨⟨hg,h|⟨h1,h2⟩⟩,h3⟩
  ·exact .inl (H.act.ea h h3).1
  ·exact .inr ⟨⟨h1,h3⟩,fun e=>h2 _ A2 e.symm⟩
 ·rintro(rfl|⟨⟨h1,h2⟩,h3⟩)
  ·exact⟨⟨rfl, .inl A2⟩,jP H.act.tab (H.act.new k)⟩
  ·refine⟨⟨H.gone y h1, .inr ⟨h1,fun w hw e=> ?_⟩⟩,h2⟩;have Ps:=H.act.gn hw h2 e;apply h3;rw [←e];by_cases k1:a.ak=1
   ·exact H.act.gy k1 Ps
   ·have k3:a.ak=3:=by rcases H.act.kind with h|h|h;exact absurd h k1;exact absurd h k;exact h
    show w.af=(AR t a.bz).af;rw [H.act.gf k1 Ps,IV,IV,H.act.same k3]
theorem Vn.j7 (k:a.ak=2):OA t st'=(OA t st).filter fun w=>w.af !=(AR t a.bq).af:=by
 refine El.ext (key:=wk) (Qf H.oc) (El.filter (Qf H.cf) _) fun y=> ?_;rw [List.mem_filter,NY,NY,H.pa y];constructor
 ·rintro⟨⟨hg,h|⟨h1,h2⟩⟩,h3⟩
  ·exact absurd k (H.act.ea h h3).2
  ·obtain⟨u,u1,u2⟩:=H.act.fc (show a.ak≠1 by omega);refine⟨⟨h1,h3⟩, ?_⟩;have:=h2 u u1;rw [u2]at this;simpa using fun e=>this e.symm
 ·rintro⟨⟨h1,h2⟩,h3⟩;refine⟨⟨H.gone y h1, .inr ⟨h1,fun w hw e=> ?_⟩⟩,h2⟩;have Ps:=H.act.gn hw h2 e;have:=H.act.gf (show a.ak≠1 by omega) Ps;rw [e]at this;simp [this]at h3
theorem Vn.fresh {r:AE} (h1:r∈rows t st') (h2:r∉rows t st):r=a.bz∧a.ak≠2:=by
 rw [Oh,List.mem_map]at h1;obtain⟨q,hq,rfl⟩:=h1;obtain⟨Gh,EK⟩:=NY.1 hq;obtain⟨_,h|⟨h3,_⟩⟩:=(H.pa q).1 Gh
 ·obtain⟨e,k⟩:=H.act.ea h EK;exact⟨by rw [e,Tt H.act.tab (H.act.new k)],k⟩
 ·exact absurd (by rw [Oh,List.mem_map];exact⟨q,NY.2 ⟨h3,EK⟩,rfl⟩) h2
theorem Vn.rows_len:(a.ak=1→(rows t st').length=(rows t st).length+1)∧(a.ak=2→(rows t st').length+1=(rows t st).length)∧(a.ak=3→(rows t st').length=(rows t st).length):=by
 have hold:a.ak≠1→AR t a.bq∈OA t st:=fun k=>NY.2 ⟨H.ahead.2 k,jP H.act.tab (H.act.old k)⟩;refine⟨fun k=> ?_,fun k=> ?_,fun k=> ?_⟩
 ·rw [Oh,Oh,List.length_map,List.length_map,H.jc (by omega),zxe fun y hy=>H.ahead.1 k y (NY.1 hy).1]
 ·rw [Oh,Oh,List.length_map,List.length_map,H.j7 k];exact zyN (Qf H.cf) ⟨_,hold (by omega),rfl⟩
 ·rw [Oh,Oh,List.length_map,List.length_map,H.jc (by omega)];refine zyq (Qf H.cf) ⟨_,hold (by omega), ?_⟩;rw [IV,IV,H.act.same k]
end
theorem yS (t:Ad) (k c:Int) (j:Nat): ∃s,((Da t k c).ah[j]?).getD ⟨[],0,0⟩={((t.ah[j]?).getD ⟨[],0,0⟩)with aq:=s}∧(s=((t.ah[j]?).getD ⟨[],0,0⟩).aq∨s=c):=by
 unfold Da;dsimp only;rw [List.getElem?_set];split
 ·rename_i h;subst h;split
  ·exact⟨c,rfl, .inr rfl⟩
  ·rename_i h2;rw [List.getElem?_eq_none (by omega)];exact⟨0,rfl, .inl rfl⟩
 ·exact⟨_,rfl, .inl rfl⟩
theorem zFx {t:Ad} {k c:Int} (h:A0 t=true) (hc:BQ c 0 3=true):A0 (Da t k c)=true:=by
 have hl:(Da t k c).ah.length=t.ah.length:=by unfold Da;simp
 unfold A0 at h ⊢;simp only [Ae]at h ⊢;obtain⟨⟨⟨h1,h2⟩,h3⟩,h4⟩:=h;refine⟨⟨⟨h1,h2⟩,by rw [hl];exact h3⟩, ?_⟩;rw [hl];rw [AK]at h4 ⊢;intro i hi;have hq:=h4 i hi;unfold HT at hq ⊢;obtain⟨s,e,hs⟩:=yS t k c i;obtain⟨s',e',_⟩:=yS t k c (i-1);dsimp only at hq ⊢;rw [e,e'];simp only [Ae]at hq ⊢;refine⟨⟨⟨hq.1.1.1,hq.1.1.2⟩, ?_⟩,hq.2⟩;rcases hs with rfl|rfl
 ·exact hq.1.2
 ·exact hc
theorem x7 {t:Ad} {n:Af} {c:Int} (h:B8 t n=true) (hc:BQ c 0 3=true):B8 (Da t (Cj t n) c) n=true:=by unfold B8 at h ⊢;rw [Ae]at h ⊢;exact⟨zFx h.1 hc,by rw [zyE (n:=n) (Ws t (Cj t n) c)];exact h.2⟩
theorem zCJ: ∀(n:Nat) {c:Ap} {p:Ad × Ap},JA n c=some p→p.1.ah≠ []→NL c=VD p.2.ax p.2.bw p.2.a7 p.1.ae p.1.ar p.1.ah:=by
 have stop: ∀{p:Ad × Ap},p.1.ah≠ []→Ay (fun s:List Int × Int × Int × Ab × List (Ab) × List Au=>RE s.1 s.2.1 s.2.2.1 s.2.2.2.1 s.2.2.2.2.1 s.2.2.2.2.2) (p.2.ax,p.2.bw,p.2.a7,p.1.ae,p.1.ar,p.1.ah)=VD p.2.ax p.2.bw p.2.a7 p.1.ae p.1.ar p.1.ah:=by intro p hp;refine Df ?_;show RE p.2.ax p.2.bw p.2.a7 p.1.ae p.1.ar p.1.ah=_;unfold RE;have:0<p.1.ah.length:=List.length_pos_iff.2 hp;rw [if_neg (by simp;omega)]
 intro n
 induction n with
 |zero=>intro c p h A3;unfold NL;rw [show Jo c=some p from h,Aa];exact stop A3
 |succ n ih=>
  intro c p h A3;unfold JA at h;obtain⟨q,hq,h⟩:=Is h;split at h
  ·rename_i h0;have he:q.1.ah= []:=List.eq_nil_of_length_eq_zero h0;obtain⟨r,hr⟩: ∃r,Jo q.2=some r:=by
    cases n with
    |zero=>exact⟨p,h⟩
    |succ n=>unfold JA at h;obtain⟨r,hr,_⟩:=Is h;exact⟨r,hr⟩
   rw [←ih h A3];unfold NL;rw [hq,Aa,hr,Aa];refine DF ?_;show RE q.2.ax q.2.bw q.2.a7 q.1.ae q.1.ar q.1.ah=_;unfold RE;rw [if_pos (by rw [he];rfl),show(⟨q.2.ax,q.2.bw,q.2.a7⟩:Ap)=q.2 from rfl,hr,Aa]
  ·cases h;unfold NL;rw [hq,Aa];exact stop A3
structure Hl (n:Nat) (s:Aq):Prop where
 name:s.ae.length≤10
 ways:s.aj.length≤4+n
 least:n=0→1≤s.aj.length
 way: ∀t∈s.aj,A0 t=true
 at_:s.bp.length≤3+n
 pe:s.ao.length≤80+n
 store:MP s.ao
theorem Hl.small {n:Nat} {s:Aq} (h:Hl n s) (hn:n≤10):DK s:=⟨by have:=h.name;omega,by have:=h.ways;omega,fun t ht=>GP (h.way t ht),by have:=h.at_;omega,h.store.small⟩
theorem zDi {a b:Int} (QY:0≤a) (Ud:a≤3) (H2:0≤b) (Gu:b≤3):(a=b∧Fm 3 a b= [])∨ ∃l,Fm 3 a b=l++ [b]:=by
 have h1:a=0∨a=1∨a=2∨a=3:=by omega
 have h2:b=0∨b=1∨b=2∨b=3:=by omega
 rcases h1 with rfl|rfl|rfl|rfl<;>rcases h2 with rfl|rfl|rfl|rfl<;>first|exact .inl ⟨rfl,rfl⟩|exact .inr ⟨[],rfl⟩|exact .inr ⟨[_],rfl⟩|exact .inr ⟨[_,_],rfl⟩
theorem zEz {t:Ad} {n:Af} {b:Int} {ats:List Int} {l:List Ac} (h:B8 t n=true) (H2:0≤b) (Gu:b≤3):way t (Cj t n) (BD t n) b=D8 ⟨n,way t (Cj t n) (BD t n) b,ats,l⟩:=by
 have f:=Fj h;have key:BD (Ip ⟨n,way t (Cj t n) (BD t n) b,ats,l⟩) n=b:=by
  unfold Ip way;rcases zDi f.2.2.2.1 f.2.2.2.2.1 H2 Gu with⟨e1,e2⟩|⟨k,e2⟩
  ·rw [e2];exact e1
  ·rw [e2];have:((t::(k++ [b]).map (Da t (Cj t n)))[(t::(k++ [b]).map (Da t (Cj t n))).length-1]?).getD Nt=Da t (Cj t n) b:=by
    simp
   rw [this];exact zD3 h
 unfold D8;rw [key];rfl
theorem wJ {t:Ad} {n:Af} {b:Int} (h:B8 t n=true) (H2:0≤b) (Gu:b≤3): ∀w∈way t (Cj t n) (BD t n) b,B8 w n=true:=by
 intro w hw;have f:=Fj h;rcases Ag.1 hw with rfl|hw
 ·exact h
 ·obtain⟨c,hc,rfl⟩:=List.mem_map.1 hw;have:=sW 3 f.2.2.2.1 f.2.2.2.2.1 H2 Gu c hc;exact x7 h (Ca.2 this)
theorem zy5 {t:Ad} {n:Af} {stage srv:Int} {l:List Ac} (h:B8 t n=true) (hn:n.length≤10) (Rb:0≤stage) (Fw:stage≤3) (h1:1≤srv) (h2:srv≤3) (hl:Lr l):
  ZP t n stage srv l=some (if B0 l=true then(⟨n,way t (Cj t n) (BD t n) stage,List.replicate srv.toNat 0,l⟩,true)else(⟨[], [], [], []⟩,false)):=by
 have hg:=IU h;have hS:=GP hg;have f:=Fj h;have hk:BH (fun x:Au=>x.ae==n) t.ah≥0:=by unfold B8 at h;rw [Ae,decide_eq_true_eq]at h;exact h.2
 have Gt:ZU t n stage=some true:=by unfold ZU;rw [Qq hS,Aa,if_pos hg,Jz hS,Aa,if_pos (decide_eq_true hk),Ir,Aa,Ca.2 ⟨Rb,Fw⟩]
 unfold ZP;rw [Gt,Aa,if_pos rfl,Ir,Aa,if_pos (Ca.2 ⟨h1,h2⟩),Qw hl,Aa];by_cases hr:B0 l=true
 ·have hw:=wJ h Rb Fw;have hlen:(way t (Cj t n) (BD t n) stage).length≤4:=by
   unfold way;have:=sA 3 (BD t n) stage;rw [Ao,List.length_map];omega
  rw [if_neg (by simp [hr]),if_pos hr,zGn hS f.1 (by rw [←f.2.1];exact f.2.2.2.1) (by rw [←f.2.1];exact f.2.2.2.2.1) Rb Fw,Aa,AQ (by omega)];have e:way t (BH (fun y:Au=>y.ae==n) t.ah) (Dx t n).aq stage=way t (Cj t n) (BD t n) stage:=by rw [f.2.1];rfl
  rw [e,W7 (s:=⟨n,way t (Cj t n) (BD t n) stage,List.replicate srv.toNat 0,l⟩) ⟨by dsimp only;omega,by dsimp only;omega,fun t ht=>GP (IU (hw t ht)),by dsimp only;rw [List.length_replicate];omega,hl⟩];rfl
 ·rw [if_pos (by simpa using hr),if_neg hr]
structure TY (t:Ad) (n:Af) (rs:List Ac) (v:Aq):Prop where
 name:v.ae.length≤10
 ways:v.aj.length≤4
 way: ∀w∈v.aj,B8 w v.ae=true
 at_:v.bp.length≤3
 some_:1≤v.aj.length
 ph:v.aj=D8 v
 pq:1≤v.bp.length
 store:Dh 5 v.ao
theorem TY.br {t:Ad} {n:Af} {rs:List Ac} {v:Aq} (hI:TY t n rs v) {ats:List Int} (OM:ats.length=v.bp.length) (hb: ∀z∈ats,0≤z∧z≤(v.aj.length:Int)-1) {l:List Ac} (hl:Dh 24 l):BN ⟨v.ae,v.aj,ats,l⟩:=by
 have h1:=hI.at_;have h2:=hI.pq;have h3:=hl.len;refine⟨hI.some_,hI.ways,hI.way,hI.ph,Ca.2 ⟨?_, ?_⟩,hb, ?_⟩
 ·dsimp only;omega
 ·dsimp only;omega
 ·dsimp only;rw [bJ hl.cf hl.br hl.live];exact decide_eq_true (by omega)
theorem zxh [Inhabited B7] {t:Ad} {n:Af} {rs:List Ac} {v11:List Ac × Ap} {v:Aq × Bool} {ats:List Int} {c:Ap} {k:Int} {l:List Ac} (hI:TY t n rs v.1) (Er:Dh 20 v11.1) (OM:ats.length=v.1.bp.length) (hb: ∀z∈ats,0≤z∧z≤(v.1.aj.length:Int)-1) (hl:Dh 24 l) (h:A1 c k) (hk:k≤4611686018427300000):
  Bf (lV v11 v ats c.ax c.bw c.a7 l) fun p=>(Hl 0 p.1∧BN p.1)∧A1 p.2 (k+10):=by
 unfold lV;have hw:=hI.ways;have ha:=hI.at_;refine(Hc 7 (c:=⟨c.ax,c.bw,c.a7⟩) h (by omega)).bind fun u hu=> .ite (fun _=> .ret ⟨⟨⟨hI.name,by dsimp only;omega,fun _=>hI.some_,fun t ht=>IU (hI.way t ht),by dsimp only;omega,by have:=Er.len;dsimp only;omega,Er.mc (by omega)⟩,hI.br OM hb (Er.mono (by omega))⟩,hu.up (by omega)⟩) fun _=> .ret ⟨⟨⟨hI.name,by dsimp only;omega,fun _=>hI.some_,fun t ht=>IU (hI.way t ht),by dsimp only;omega,by have:=hl.len;dsimp only;omega,hl.mc (by omega)⟩,hI.br OM hb hl⟩,hu.up (by omega)⟩
theorem zyz [Inhabited B7] {t:Ad} {y:Au} {v11:List Ac × Ap} {rs:List Ac} {v:Aq × Bool} {ats:List Int} {c:Ap} {k:Int} (ht:B8 t y.ae=true) (DP:Dh 5 rs) (hI:TY t y.ae rs v.1) (Er:Dh 20 v11.1) (OM:ats.length=v.1.bp.length) (hb: ∀z∈ats,0≤z∧z≤(v.1.aj.length:Int)-1) (h:A1 c k) (hk:k≤4611686018427200000):
  Bf (lU y t v11 rs v c.ax c.bw c.a7 ats) fun p=>(Hl 0 p.1∧BN p.1)∧A1 p.2 (k+200):=by
 have hg:=IU ht;have hS:=GP hg;have f:=Fj ht;have hn:y.ae.length≤10:=by have:=(Mn (show CH y.ae 1=true by rw [←f.1.name];exact(EA hg f.2.2.1).1)).1;omega
 have hlen:=DP.len;have hatl:=hI.at_;have Eg:=hI.name;unfold lU;have AZ: ∀z∈ats,∃tb x,getI v.1.aj z=some tb∧tb∈v.1.aj∧EO tb v.1.ae x∧BD tb v.1.ae=x.aq:=fun z hz=>by obtain⟨tb,q1,q2,_⟩:=IX (hb z hz).1 (by have:=(hb z hz).2;omega:z<v.1.aj.length);obtain⟨x,q3,q4,_⟩:=KA (hI.way tb q2);exact⟨tb,x,q1,q2,q3,q4⟩
 have Pd:(ats.map fun z=>BD ((getI v.1.aj z).getD Nt) v.1.ae).length=ats.length:=by simp
 have n1:=yJ (s:=⟨v.1.ae,v.1.aj,ats,v.1.ao⟩) (st:=ats.map fun z=>BD ((getI v.1.aj z).getD Nt) v.1.ae) Pd (by rw [Pd];omega) fun i hi=>by
  have EJ:i<ats.length:=by omega
  obtain⟨tb,x,q1,q2,q3,q4⟩:=AZ _ (List.getElem_mem EJ);refine⟨ats[i],tb,_,x,AL EJ,q1,Jz (GP (IU (hI.way _ q2))),q3.at_, ?_⟩;simp only [List.getElem_map,q1,Option.getD_some,q4]
 rw [n1,Aa,zxv hS (by omega) f.1 (by omega) (fun w hw=>Ks (DP.br w hw)),Aa];have No:=qK t y.ae (Dx t y.ae) rs;have vV: ∀z∈wanted t y.ae (Dx t y.ae) rs,CU ⟨z, [],false⟩=true:=fun z hz=>by obtain⟨q,hq,hr,rfl⟩:=Qg.1 hz;refine WU (Wz hg ?_ (Fy hr).1) (by decide);rw [←f.1.name];exact(EA hg f.2.2.1).1
 generalize wanted t y.ae (Dx t y.ae) rs=W at No vV;generalize Hh _=nd;refine K7 (fun m s=> ∃i:Nat,s.1=(i:Int)∧i+m=W.length∧Dh (5+i) s.2.2.2.2∧A1 ⟨s.2.1,s.2.2.1,s.2.2.2.1⟩ (k+2*i)) (fun m s hJ=> ?_) (n:=W.length) (by exact⟨0,rfl,by omega,hI.store,by simpa using h⟩);obtain⟨i,e1,e2,hT,ho⟩:=hJ;obtain⟨s1,a,b,e,l⟩:=s;dsimp only at e1 hT ho ⊢;subst e1;have DN:=hT.len;unfold zhe;refine .ite (fun Ak=> ?_) fun EG=> ?_
 ·simp only [decide_eq_true_eq]at Ak;have hi:i<W.length:=by omega
  have w1:IntKind.i64.wrap ((i:Int)+1)=((i+1:Nat):Int):=by rw [Ba (by omega) (by omega)];omega
  have F2:=TH hT (vV _ (List.getElem_mem hi)) rfl;have Jl:=Mz (l:=l) (w:=⟨W[i], [],false⟩) (by omega) hT.cf;rw [AL hi,Aa];refine .ite (fun _=> .ite (fun _=> ?_) fun hf=>by cases hf) fun _=> .ite (fun _=> ?_) fun _=> .ite (fun hf=>by cases hf) fun _=> .ret ⟨m-1,by omega,i+1,w1,by omega,hT.mono (by omega),ho.up (by omega)⟩
  ·rw [Jl,Aa];exact .ret ⟨m-1,by omega,i+1,w1,by omega,F2.mono (by omega),ho.up (by omega)⟩
  ·refine(Hc 2 ho (by omega)).bind fun u hu=> .ite (fun _=> ?_) fun _=> .ret ⟨m-1,by omega,i+1,w1,by omega,hT.mono (by omega),hu.up (by omega)⟩;rw [Jl,Aa];exact .ret ⟨m-1,by omega,i+1,w1,by omega,F2.mono (by omega),hu.up (by omega)⟩
 ·exact .ret ((zxh (c:=⟨a,b,e⟩) hI Er OM hb (hT.mono (by omega)) ho (by omega)).mono fun p hp=>⟨hp.1,hp.2.up (by omega)⟩)
theorem zya [Inhabited B7] {t:Ad} {y:Au} {v11:List Ac × Ap} {rs:List Ac} {k:Int} (ht:B8 t y.ae=true) (DP:Dh 5 rs) (hrg:B0 rs=true) (Er:Dh 20 v11.1) (h:A1 v11.2 k) (hk:k≤4611686018427100000):
  Bf (lS y t v11 rs) fun p=>(Hl 0 p.1∧BN p.1)∧A1 p.2 (k+400):=by
 unfold lS;have hg:=IU ht;have f:=Fj ht;have hn:y.ae.length≤10:=by have:=(Mn (show CH y.ae 1=true by rw [←f.1.name];exact(EA hg f.2.2.1).1)).1;omega
 refine(Dy 4 h (by omega)).bind fun p ⟨hp,hc⟩=>(Dy 3 hc (by omega)).bind fun r ⟨hr,hd⟩=> ?_;have p2:=hp.2.1 (by omega);have r2:=hr.2.1 (by omega);have hW:Lr rs:=(DP.mc (by omega)).small;rw [Ba (n:=1+r.1) (by omega) (by omega),zy5 ht hn hp.1 (by omega) (by omega) (by omega) hW,Aa,if_pos hrg];have hI:TY t y.ae rs ((⟨y.ae,way t (Cj t y.ae) (BD t y.ae) p.1,List.replicate (1+r.1).toNat 0,rs⟩:Aq),true).1:=by
  have hw:=wJ ht hp.1 (by omega);have hlen:(way t (Cj t y.ae) (BD t y.ae) p.1).length≤4∧1≤(way t (Cj t y.ae) (BD t y.ae) p.1).length:=by unfold way;have:=sA 3 (BD t y.ae) p.1;rw [Ao,List.length_map];omega
  exact⟨hn,hlen.1,hw,by dsimp only;rw [List.length_replicate];omega,hlen.2,zEz ht hp.1 (by omega),by dsimp only;rw [List.length_replicate];omega,DP⟩
 have hz: ∀z∈((⟨y.ae,way t (Cj t y.ae) (BD t y.ae) p.1,List.replicate (1+r.1).toNat 0,rs⟩:Aq),true).1.bp,z=0:=fun z hz=>(List.mem_replicate.1 hz).2;generalize ((⟨y.ae,way t (Cj t y.ae) (BD t y.ae) p.1,List.replicate (1+r.1).toNat 0,rs⟩:Aq),true)=v at hI hz;have GL:=hI.some_;have hws:=hI.ways;have OM:=hI.at_;refine(Dy _ hd (by omega)).bind fun g ⟨vD,he⟩=> ?_;refine K7 (fun m s=> ∃i:Nat,s.1=(i:Int)∧i+m=v.1.bp.length∧s.2.2.2.2.length=v.1.bp.length∧(∀z∈s.2.2.2.2,0≤z∧z≤(v.1.aj.length:Int)-1)∧A1 ⟨s.2.1,s.2.2.1,s.2.2.2.1⟩ (k+6+10*i)) (fun m s hJ=> ?_) (n:=v.1.bp.length) (by refine⟨0,rfl,by omega,rfl,fun z Nq=> ?_,he.up (by omega)⟩;rw [hz z Nq];omega)
 obtain⟨i,e1,e2,hl,hb,ho⟩:=hJ;obtain⟨s1,a,b,e,ats⟩:=s;dsimp only at e1 hl hb ho ⊢;subst e1;unfold zg5;refine .ite (fun Ak=> ?_) fun EG=> ?_
 ·simp only [decide_eq_true_eq]at Ak;have hi:i<v.1.bp.length:=by omega
  have Q3:i<ats.length:=by omega
  have hg3:=vD.2.2;have hg4:=vD.2.1 (by omega);have w1:IntKind.i64.wrap ((i:Int)+1)=((i+1:Nat):Int):=by rw [Ba (by omega) (by omega)];omega
  refine(Dy 2 ho (by omega)).bind fun u ⟨hu,hf⟩=> ?_;have u2:=hu.2.1 (by omega);obtain⟨z,ez,z0,z1⟩: ∃z,aB (IntKind.i64.wrap (g.1+u.1)) (IntKind.i64.wrap ((v.1.aj.length:Int)-1))=some z∧0≤z∧z≤(v.1.aj.length:Int)-1:=by
   rw [Ba (by omega) (by omega),Ba (by omega) (by omega)];unfold aB;split
   ·rename_i hh;rw [decide_eq_true_eq]at hh;exact⟨_,rfl,by omega,by omega⟩
   ·exact⟨_,rfl,by omega,by omega⟩
  rw [ez,Aa,AL Q3,Aa];have Ka: ∀{x:Int} {l:List Int} {j:Nat},(∀z∈l,0≤z∧z≤(v.1.aj.length:Int)-1)→0≤x→x≤(v.1.aj.length:Int)-1→ ∀z∈l.set j x,0≤z∧z≤(v.1.aj.length:Int)-1:=by
   intro x l j h0 h1 h2 z hz;rcases List.mem_or_eq_of_mem_set hz with hz|rfl
   ·exact h0 z hz
   ·exact⟨h1,h2⟩
  refine(Hc 9 hf (by omega)).bind fun o UN=> .ite (fun _=> ?_) fun _=> .ret ⟨m-1,by omega,i+1,w1,by omega,by rw [List.length_set];exact hl,Ka hb z0 z1,UN.up (by omega)⟩;refine(Dy _ UN (by omega)).bind fun q ⟨hq,hh⟩=> .ret ⟨m-1,by omega,i+1,w1,by omega,by rw [List.length_set,List.length_set];exact hl,Ka (Ka hb z0 z1) hq.1 (by have:=hq.2.1 (by omega);omega),hh.up (by omega)⟩
 ·exact .ret ((zyz (c:=⟨a,b,e⟩) ht DP hI Er hl hb ho (by omega)).mono fun p hp=>⟨hp.1,hp.2.up (by omega)⟩)
theorem zyG [Inhabited B7] {t:Ad} {c:Ap} {k:Int} (hg:A0 t=true) (A3:t.ah≠ []) (h:A1 c k) (hk:k≤4611686018427000000):
  Bf (VD c.ax c.bw c.a7 t.ae t.ar t.ah) fun p=>(Hl 0 p.1∧BN p.1)∧A1 p.2 (k+2000):=by
 unfold VD;have hS:=GP hg;have IE:0<t.ah.length:=List.length_pos_iff.2 A3;have hm:=List.getElem_mem IE;rw [show getI t.ah 0=some t.ah[0]from AL IE,Aa];refine(Dy 4 (c:=⟨c.ax,c.bw,c.a7⟩) h (by omega)).bind fun p ⟨hp,hc⟩=> ?_;have p2:=hp.2.1 (by omega);have hI:B8 t t.ah[0].ae=true:=by unfold B8;have:=Od (fun y:Au=>y.ae==t.ah[0].ae) t.ah;rw [show(t.ah.any fun y=>y.ae==t.ah[0].ae)=true from List.any_eq_true.2 ⟨_,hm,by simp⟩]at this;rw [hg,this];rfl
 rw [show(⟨t.ae,t.ar,t.ah⟩:Ad)=t from rfl,jN hS (dB hg hm),Aa];have ek:Da t (BH (fun y:Au=>y.ae==t.ah[0].ae) t.ah) p.1=Da t (Cj t t.ah[0].ae) p.1:=rfl;rw [ek];have XB:=x7 (c:=p.1) hI (Ca.2 ⟨hp.1,by omega⟩);generalize t.ah[0]=y at XB;generalize Da t (Cj t y.ae) p.1=t' at XB;have Cm:=IU XB;have uY:=GP Cm;refine(zFG Cm hc (by omega)).bind fun l ⟨⟨hl,LQ⟩,hd⟩=> ?_;have DN:=hl.len;rw [Qp uY.name (by omega) (fun w hw=>Ks (hl.br w hw)),Aa];have hR:(rows t' l.1).length≤5:=by unfold rows;rw [List.length_map];exact LQ
 have FV: ∀r∈rows t' l.1,Be t' r=true:=fun r hr=>Kr hr;generalize rows t' l.1=R at hR FV;refine K7 (fun m s=> ∃i:Nat,s.2=(i:Int)∧i+m=R.length∧Dh i s.1) (fun m s hJ=> ?_) (n:=R.length) (by exact⟨0,rfl,by omega,⟨⟨.nil,by simp,by simp⟩,by simp⟩⟩);obtain⟨i,e1,e2,hT⟩:=hJ;obtain⟨ws,s1⟩:=s;dsimp only at e1 hT ⊢;subst e1;have No:=hT.len;unfold zhc;refine .ite (fun Ak=> ?_) fun EG=> ?_
 ·simp only [decide_eq_true_eq]at Ak;have hi:i<R.length:=by omega
  have w1:IntKind.i64.wrap ((i:Int)+1)=((i+1:Nat):Int):=by rw [Ba (by omega) (by omega)];omega
  have Ef:=FV _ (List.getElem_mem hi);obtain⟨hs,h2⟩:=IT Cm Ef;have A3:R[i].ay≠ []:=fun e=>by rw [e]at h2;simp at h2
  have hw:=N8 Cm Ef;rw [AL hi,Aa,Lj uY.name hs.small A3,Aa,Mz (by omega) hT.cf,Aa];exact .ret ⟨m-1,by omega,i+1,w1,by omega,TH hT (w:=AR t' R[i]) (WU hw.1 hw.2) rfl⟩
 ·exact .ret ((zya XB (hT.mono (by omega)) (by rw [bJ hT.cf hT.br hT.live];exact decide_eq_true (by omega)) hl hd (by omega)).mono fun p hp=>⟨hp.1,hp.2.up (by omega)⟩)
def NC:Int:=3000000000000000
theorem zyd [Inhabited B7] {c:Ap} {k:Int} (h:A1 c k) (hs:sd c) (hl:(c.ax.length:Int)≤1048576) (hk:k≤1000000000000000000):Bf (NL c) fun p=>(Hl 0 p.1∧BN p.1)∧A1 p.2 (k+NC):=by
 have Uh:=h.2.1;have hm:Rp=70368744177664:=rfl;obtain⟨p,hp,hg,A3⟩:=(zyp (1048576+Rp) h (by omega)).and (zti 1048576 Rp h (by omega) hs (by omega) fun h1 h2 h3=>zBD h1 (by omega) h3);rw [zCJ _ hp A3];refine(zyG hg.1 A3 hg.2 (by omega)).mono fun q hq=>⟨hq.1,hq.2.up ?_⟩
 unfold NC;omega
theorem zvX [Inhabited B7] {c:Ap} {k:Int} (h:A1 c k) (hs:sd c) (hl:(c.ax.length:Int)≤1048576) (hk:k≤1000000000000000000):Bf (YP c) fun p=>Hl 1 p.1∧A1 p.2 (k+NC+100):=by
 unfold YP;have hf:NC=3000000000000000:=rfl;refine(zyd h hs hl hk).bind fun s ⟨⟨hS,_⟩,hc⟩=>(Dy 14 hc (by omega)).bind fun q ⟨_,hd⟩=> ?_;have h1:=hS.ways;have h2:=hS.at_;have h3:=hS.store.len;have h4:=hS.pe;refine .ite (fun _=> ?_) fun _=> .ite (fun _=> ?_) fun _=> .ite (fun _=> ?_) fun _=> .ite (fun _=> ?_) fun _=> .ite (fun _=> .ret ⟨⟨hS.name,by simp,by simp,by simp,by dsimp only;omega,by dsimp only;omega,hS.store⟩,hd.up (by omega)⟩) fun _=> .ite (fun _=> ?_) fun _=> .ret ⟨⟨hS.name,by dsimp only;omega,by simp,hS.way,by dsimp only;omega,by dsimp only;omega,hS.store⟩,hd.up (by omega)⟩
 ·refine(Dy 6 hd (by omega)).bind fun u ⟨_,he⟩=> .req (by simp;omega) (.ret ⟨⟨hS.name,by dsimp only;omega,by simp,hS.way,by simp;omega,by dsimp only;omega,hS.store⟩,he.up (by omega)⟩)
 ·refine(WR hd (by omega)).bind fun u ⟨hu,he⟩=> .req (by simp;omega) (.ret ⟨⟨hS.name,by simp;omega,by simp,fun t ht=> ?_,by dsimp only;omega,by dsimp only;omega,hS.store⟩,he.up (by omega)⟩);dsimp only at ht;rcases Ai.1 ht with ht|ht
  ·exact hS.way t ht
  ·rw [List.mem_singleton.1 ht];exact hu
 ·refine(LA _ (by simp) hd (by omega)).bind fun u ⟨hu,he⟩=> .ret ⟨⟨?_,by dsimp only;omega,by simp,hS.way,by dsimp only;omega,by dsimp only;omega,hS.store⟩,he.up (by omega)⟩;simp only [Ag,List.not_mem_nil,or_false]at hu;dsimp only;rcases hu with e|e<;>rw [e]<;>decide
 ·refine .req (by simp;omega) (.ret ⟨⟨hS.name,by dsimp only;omega,by simp,hS.way,by dsimp only;omega,by simp;omega,⟨by simp;omega,fun w hw=> ?_⟩⟩,hd.up (by omega)⟩);dsimp only at hw;rcases Ai.1 hw with hw|hw
  ·exact hS.store.each w hw
  ·rw [List.mem_singleton.1 hw];exact⟨by decide,by decide⟩
 ·have h5:=hS.least rfl;refine .req (by omega) (.ret ⟨⟨hS.name, ?_,by simp,fun t ht=> ?_,by dsimp only;omega,by dsimp only;omega,hS.store⟩,hd.up (by omega)⟩)
  ·dsimp only;unfold Bn;rw [List.length_drop,List.length_take];omega
  ·dsimp only at ht;unfold Bn at ht;exact hS.way t (List.mem_of_mem_take (List.mem_of_mem_drop ht))
theorem zyK [Inhabited B7] {c:Ap} {k:Int} {s:Aq} (hS:Hl 1 s) (h1:1≤s.aj.length) (h:A1 c k) (hk:k≤4611686018427000000):Bf (YX c s) fun p=>KF p.1.au∧A1 p.2 (k+200):=by
 unfold YX;refine(Dy _ h (by omega)).bind fun p ⟨_,hc⟩=>(Hc 3 hc (by omega)).bind fun u hu=> .ite (fun _=> ?_) fun _=> ?_
 ·exact(tK _ (by simp) hu (by omega)).bind fun q ⟨_,hd⟩=> .ret ⟨⟨Ju,Ju⟩,hd.up (by omega)⟩
 ·refine Bf.bind (P:=fun t=>A0 t=true) (.getI (by omega) (by omega) hS.way) fun t ht=> ?_;exact(zIW ht hS.store hu (by omega)).bind fun a ⟨ha,hd⟩=> .ret ⟨ha,hd.up (by omega)⟩
theorem zEH {s:Aq} (hS:DK s):aV s s=some true:=by unfold aV;rw [if_pos (by simp),zDb hS.ways hS.way,Aa,if_pos rfl,zFo hS.at_,Aa,if_pos rfl,zFs hS.store.1];rfl
theorem zzA:DK OC:=⟨by simp [OC],by simp [OC],by simp [OC],by simp [OC],⟨by simp [OC],by simp [OC]⟩⟩
theorem Ly.refl {s:Aq} (hS:DK s) (hg:BN s):Ly s s:=⟨hg,hS,rfl,rfl,rfl⟩
theorem Ly.trans {s r q:Aq} (h:Ly s r) (k:Ly r q):Ly s q:=⟨k.br,k.small,k.name.trans h.name,k.ways.trans h.ways,k.at_.trans h.at_⟩
theorem Yj {bs:List Bool} {b:Bool} (h:bs.length≤1000):((bs.length:Int)+(([b]:List Bool).length:Int))*1≤140737488355328∧(bs.length:Int)+(([b]:List Bool).length:Int)≤140737488355328:=by rw [AH];omega
theorem zxg {s:Aq} (hg:BN s):Hl 1 s:=by have hI:=hg.2.2.1 (AN s) (Kv hg.1).2;have f:=Fj hI;have hn:=(Mn (show CH s.ae 1=true by rw [←f.1.name];exact(EA f.2.2.2.2.2 f.2.2.1).1)).1;have h3:=Ca.1 hg.2.2.2.2.1;have hR:=(Ei hg.2.2.2.2.2.2).1;have hl:=hR.len;exact⟨by omega,by have:=hg.2.1;omega,by simp,fun t ht=>IU (hg.2.2.1 t ht),by omega,by omega,⟨by omega,fun w hw=>Ks (hR.br w hw)⟩⟩
structure zKp (s:Aq) (g:Bool):Prop where
 gi:P1 s=some g
 hi:Qa s=some (if g=true then(GR s,true)else(false,false))
 ci:P6 s=some (if g=true then(E5 s.bp,true)else(false,false))
 br:g=true↔BN s
def A5:List B3→Nat→Nat→List Ac→Af→List Ac × Nat × Af
 | [],_,n,st,last=>(st,n,last)
 |_::_,0,n,st,last=>(st,n,last)
 |k::ks,m+1,n,st,last=>if(Bh st k.cm).2=true then A5 ks m (n+1) (Bh st k.cm).1 k.bd else(st,n,last)
def Lq (k:B3):Prop:=k.cm.length≤8∧ ∀o∈k.cm,Gq o
theorem S6: ∀(ks:List B3) (m n:Nat) {st:List Ac} {last:Af},(∀k∈ks,Lq k)→B0 st=true→B0 (A5 ks m n st last).1=true
 | [],_,_,_,_,_,h=>by simpa [A5]using h
 |_::_,0,_,_,_,_,h=>by simpa [A5]using h
 |k::ks,m+1,n,st,last,hk,h=>by
  unfold A5;split
  ·exact S6 ks m (n+1) (fun k h=>hk k (by simp [h])) (Mr (hk k (by simp)).1 (hk k (by simp)).2 h)
  ·exact h
theorem zvm {f:AD} {many:Nat} {rest:List B3} (hl:rest.length≤2000000) (hm:many≤24) (ho: ∀k∈rest,Lq k): ∀(m q:Nat) (st:List Ac) (last:Af),q+m=rest.length→B0 st=true→
  Ay (fun s:List Ac × Int × Ab=>K3 f many rest s.1 s.2.1 s.2.2) (st,(q:Int),last)=Zw f rest (A5 (rest.drop q) (many-q) q st last).1 ((A5 (rest.drop q) (many-q) q st last).2.1:Int) (A5 (rest.drop q) (many-q) q st last).2.2
 |0,q,st,last,hq,hg=>by
  have hd:rest.drop q= []:=List.drop_eq_nil_of_le (by omega);rw [hd];refine Df ?_;show K3 f many rest st q last=_;unfold K3;rw [if_neg (by
   rw [decide_eq_true_eq];cases h:decide ((rest.length:Int)<many)with
   |true=>simp only [cond_true];omega
   |false=>simp only [cond_false];rw [decide_eq_false_iff_not]at h;omega)]
  rfl
 |m+1,q,st,last,hq,hg=>by
  have Ak:q<rest.length:=by omega
  have hd:rest.drop q=rest[q]::rest.drop (q+1):=List.drop_eq_getElem_cons Ak;by_cases hqm:q<many
  ·have hc:(q:Int)<(bif decide ((rest.length:Int)<many)then(rest.length:Int)else(many:Int)):=by
    cases h:decide ((rest.length:Int)<many)with
    |true=>simp only [cond_true];omega
    |false=>simp only [cond_false];omega
   obtain⟨h8,UN⟩:=ho _ (List.getElem_mem Ak);have AU:=zyI h8 UN hg;have O7:many-q=(many-(q+1))+1:=by omega
   rw [hd,O7];unfold A5;by_cases KO:(Bh st rest[q].cm).2=true
   ·rw [if_pos KO];refine(DF (?_:K3 f many rest st q last=some (.inl ((Bh st rest[q].cm).1,((q+1:Nat):Int),rest[q].bd)))).trans (zvm hl hm ho m (q+1) _ _ (by omega) (Mr h8 UN hg));unfold K3;rw [if_pos (decide_eq_true hc),AL Ak,Aa,AU,Aa,if_neg (by simp [KO]),Bi Ak (by omega)]
   ·rw [if_neg KO];refine Df ?_;show K3 f many rest st q last=_;unfold K3;rw [if_pos (decide_eq_true hc),AL Ak,Aa,AU,Aa,if_pos (by simpa using KO)]
  ·have O7:many-q=0:=by omega
   rw [hd,O7];refine Df ?_;show K3 f many rest st q last=_;unfold K3;rw [if_neg (by
    rw [decide_eq_true_eq];cases h:decide ((rest.length:Int)<many)with
    |true=>rw [decide_eq_true_eq]at h;simp only [cond_true];omega
    |false=>simp only [cond_false];omega)]
   rfl
def behind (last k:Af):Bool:= !(Op.bytesLess k last||k==last)
theorem xM {ks:List B3} {st:List Ac} {f:AD} {many:Int} (hl:ks.length≤2000000) (hk: ∀k∈ks,Lq k) (hg:B0 st=true) (h1:1≤many) (h2:many≤24):
  NV ks st f many=some ((A5 (ks.filter fun k=>behind f.al k.bd) many.toNat 0 st f.al).1,⟨(A5 (ks.filter fun k=>behind f.al k.bd) many.toNat 0 st f.al).2.2,f.a6||((A5 (ks.filter fun k=>behind f.al k.bd) many.toNat 0 st f.al).2.1==(ks.filter fun k=>behind f.al k.bd).length)⟩):=by
 have hc:lJ ks=some ks:=Ob (by omega) (by omega);have hp: ∀k∈ks,Z3 k f=some (Op.bytesLess k.bd f.al||k.bd==f.al):=fun k _=>rfl;have hD:Jr ks (fun y0_=>Z3 y0_ f)=some (ks.filter fun k=>behind f.al k.bd):=by unfold Jr;rw [AQ (by omega),cA _ hp];rfl
 unfold NV;rw [hc,Aa,hD,Aa];generalize hr:(ks.filter fun k=>behind f.al k.bd)=rest;have J8:rest.length≤ks.length:=by rw [←hr];exact List.length_filter_le _ _
 have HC: ∀k∈rest,Lq k:=fun k h=>by rw [←hr]at h;exact hk k (List.mem_filter.1 h).1
 obtain⟨m,rfl⟩:=Int.eq_ofNat_of_zero_le (show 0≤many by omega);have e:=zvm (f:=f) (many:=m) (rest:=rest) (by omega) (by omega) HC rest.length 0 st f.al (by omega) hg;rw [List.drop_zero,Nat.sub_zero]at e;refine e.trans ?_;rw [Int.toNat_natCast];have Ef:=S6 rest m 0 (last:=f.al) HC hg;generalize A5 rest m 0 st f.al=r at Ef;unfold Zw;have hR:=(Ei Ef).1.len;have AJ:PK r.1=some r.1:=Ob (by omega) (by omega);have e2:(((r.2.1:Nat):Int)==((rest.length:Nat):Int))=(r.2.1==rest.length):=by rw [Bool.eq_iff_iff,beq_iff_eq,beq_iff_eq];omega
 rw [AJ,Aa,e2]
theorem Js (last k:Af):behind last k=bl last k:=by unfold behind;rw [dK,Bool.not_not]
def E6:List B3→Nat→List Ac→Af→List Ac × Af
 | [],_,st,last=>(st,last)
 |k::ks,m,st,last=>if m=0∨behind last k.bd=false then E6 ks m st last else if(Bh st k.cm).2=true then E6 ks (m-1) (Bh st k.cm).1 k.bd else(st,last)
theorem zvt: ∀(ks:List B3) (st:List Ac) (last:Af),E6 ks 0 st last=(st,last)
 | [],_,_=>rfl
 |k::ks,st,last=>by unfold E6;rw [if_pos (.inl rfl)];exact zvt ks st last
theorem wM: ∀(ks:List B3) (m n:Nat) (st:List Ac) (last:Af),ks.Pairwise (fun a b=>bl a.bd b.bd=true)→(∀k∈ks,behind last k.bd=true)→E6 ks m st last=((A5 ks m n st last).1,(A5 ks m n st last).2.2)
 | [],m,n,st,last,_,_=>by simp [E6,A5]
 |k::ks,0,n,st,last,_,_=>by rw [zvt];simp [A5]
 |k::ks,m+1,n,st,last,hr,hb=>by
  rw [List.pairwise_cons]at hr;unfold E6 A5;rw [if_neg (by rw [hb k (by simp)];simp)];by_cases hd:(Bh st k.cm).2=true
  ·rw [if_pos hd,if_pos hd,Nat.add_sub_cancel];exact wM ks m (n+1) _ _ hr.2 fun q hq=>by rw [Js];exact hr.1 q hq
  ·rw [if_neg hd,if_neg hd]
theorem zrA: ∀(ks:List B3) (m:Nat) (st:List Ac) (last:Af),ks.Pairwise (fun a b=>bl a.bd b.bd=true)→E6 ks m st last=E6 (ks.filter fun k=>behind last k.bd) m st last
 | [],m,st,last,_=>rfl
 |k::ks,m,st,last,hr=>by
  rw [List.pairwise_cons]at hr;by_cases hb:behind last k.bd=true
  ·have Ck:ks.filter (fun k=>behind last k.bd)=ks:=List.filter_eq_self.2 fun q hq=>by
    rw [Js]at hb ⊢;exact Gc hb (hr.1 q hq)
   rw [List.filter_cons_of_pos (by simpa using hb),Ck]
  ·rw [List.filter_cons_of_neg (by simpa using hb)];have:E6 (k::ks) m st last=E6 ks m st last:=by
    rw [E6,if_pos (.inr (by simpa using hb))]
   rw [this];exact zrA ks m st last hr.2
theorem zuX {ks:List B3} {m:Nat} {st:List Ac} {last:Af} (hr:ks.Pairwise (fun a b=>bl a.bd b.bd=true)):E6 ks m st last=((A5 (ks.filter fun k=>behind last k.bd) m 0 st last).1,(A5 (ks.filter fun k=>behind last k.bd) m 0 st last).2.2):=
 (zrA ks m st last hr).trans (wM _ m 0 st last (hr.filter _) fun k hk=>by simpa using(List.mem_filter.1 hk).2)
theorem sU: ∀(ks:List B3) (m n:Nat) (st:List Ac) (last:Af),n≤(A5 ks m n st last).2.1∧(A5 ks m n st last).2.1≤n+ks.length
 | [],m,n,st,last=>by simp [A5]
 |k::ks,0,n,st,last=>by simp [A5]
 |k::ks,m+1,n,st,last=>by
  unfold A5;split
  ·have:=sU ks m (n+1) (Bh st k.cm).1 k.bd;simp only [Ao];omega
  ·simp
theorem bG: ∀(ks:List B3) (m n:Nat) (st:List Ac) (last:Af),ks.Pairwise (fun a b=>bl a.bd b.bd=true)→(∀k∈ks,bl last k.bd=true)→ ∀(i:Nat) (h:i<ks.length),bl (A5 ks m n st last).2.2 ks[i].bd=decide ((A5 ks m n st last).2.1≤n+i)
 | [],_,_,_,_,_,_,i,h=>by simp at h
 |k::ks,0,n,st,last,_,hb,i,h=>by simp only [A5];rw [hb _ (List.getElem_mem h)];exact(decide_eq_true (by omega)).symm
 |k::ks,m+1,n,st,last,hr,hb,i,h=>by
  rw [List.pairwise_cons]at hr;unfold A5;split
  ·cases i with
   |zero=>
    have h1:=sU ks m (n+1) (Bh st k.cm).1 k.bd;rw [decide_eq_false (by omega)];have key: ∀(ks:List B3) (m n:Nat) (st:List Ac) (last:Af),ks.Pairwise (fun a b=>bl a.bd b.bd=true)→(∀q∈ks,bl last q.bd=true)→(A5 ks m n st last).2.2=last∨bl last (A5 ks m n st last).2.2=true:=by
     intro ks
     induction ks with
     |nil=>intro m n st last _ _;left;simp [A5]
     |cons q ks ih=>
      intro m n st last hr hb;rw [List.pairwise_cons]at hr;cases m with
      |zero=>left;simp [A5]
      |succ m=>
       unfold A5;split
       ·rcases ih m (n+1) (Bh st q.cm).1 q.bd hr.2 hr.1 with e|e
        ·rw [e];exact .inr (hb q (by simp))
        ·exact .inr (Gc (hb q (by simp)) e)
       ·left;rfl
    show bl _ k.bd=false;rcases key ks m (n+1) (Bh st k.cm).1 k.bd hr.2 hr.1 with e|e
    ·rw [e];cases Hq:bl k.bd k.bd with
     |false=>rfl
     |true=>exact absurd rfl (FF Hq)
    ·cases Hq:bl (A5 ks m (n+1) (Bh st k.cm).1 k.bd).2.2 k.bd with
     |false=>rfl
     |true=>exact absurd rfl (FF (Gc e Hq))
   |succ i=>have:=bG ks m (n+1) (Bh st k.cm).1 k.bd hr.2 hr.1 i (by simpa using h);rw [List.getElem_cons_succ,this];congr 1;rw [eq_iff_iff];omega
  ·rw [hb _ (List.getElem_mem h)];exact(decide_eq_true (show n≤n+i by omega)).symm
def Lt (ks:List B3) (f:AD) (m:Nat) (st:List Ac):List Ac × AD:=((A5 (ks.filter fun k=>behind f.al k.bd) m 0 st f.al).1,⟨(A5 (ks.filter fun k=>behind f.al k.bd) m 0 st f.al).2.2,f.a6||((A5 (ks.filter fun k=>behind f.al k.bd) m 0 st f.al).2.1==(ks.filter fun k=>behind f.al k.bd).length)⟩)
def Bu (t:Ad) (x:Au) (r:AE):B3:=⟨(AR t r).af, [⟨7,(AR t r).af,(AR t r).bb,0⟩,⟨2,Bv t x.ae x.bj r, [],0⟩]⟩
def BU (k:Af):B3:=⟨k, [⟨3,k, [],0⟩]⟩
theorem WW {t:Ad} {x:Au} {r:AE} (hg:A0 t=true) (hx:x∈t.ah) (hr:Be t r=true):Lq (Bu t x r):=by
 have h1:=N8 hg hr;have h2:=Wz (n:=x.ae) (c:=x.bj) hg (EA hg hx).1 hr;refine⟨by simp [Bu],fun o ho=> ?_⟩;simp only [Bu,Ag,List.not_mem_nil,or_false]at ho;rcases ho with rfl|rfl
 ·exact⟨h1.1,h1.2,rfl,by simp,by simp⟩
 ·exact⟨h2,show Gl ([]:Af)=true by decide,rfl,by simp,by simp⟩
theorem WD {k:Af} (h:An k=true):Lq (BU k):=by refine⟨by simp [BU],fun o ho=> ?_⟩;simp only [BU,Ag,List.not_mem_nil,or_false]at ho;subst ho;exact⟨h,show Gl ([]:Af)=true by decide,rfl,by simp,by simp⟩
theorem rT {t:Ad} {x:Au} {f:AD} {R:List AE} (hg:A0 t=true) (hx:x∈t.ah) (hl:R.length≤2000000) (hR: ∀r∈R,Be t r=true): ∀(m q many:Nat) (st:List Ac) (last:Af),q+m=R.length→many≤24→B0 st=true→
  Ay (fun s:Int × Int × Ab × List Ac=>Mg t f x R s.1 s.2.1 s.2.2.1 s.2.2.2) ((many:Int),(q:Int),last,st)=SB t f (E6 ((R.drop q).map (Bu t x)) many st last).2 (E6 ((R.drop q).map (Bu t x)) many st last).1
 |0,q,many,st,last,hq,hm,AZ=>by rw [List.drop_eq_nil_of_le (show R.length≤q by omega)];refine Df ?_;show Mg t f x R many q last st=_;unfold Mg;rw [if_neg (by rw [decide_eq_true_eq];omega)];rfl
 |m+1,q,many,st,last,hq,hm,AZ=>by
  have Ak:q<R.length:=by omega
  have hr:=hR _ (List.getElem_mem Ak);have hS:=GP hg;obtain⟨hs,h2⟩:=IT hg hr;have A3:R[q].ay≠ []:=fun e=>by rw [e]at h2;simp at h2
  obtain⟨e1,_⟩:=pQ hg hx hr;have ho:=WW hg hx hr;have KO:=Yt ho.1 ho.2 AZ;have e2:Z8 t x R[q]=some (Bu t x R[q]).cm:=by unfold Z8;rw [Lj hS.name hs.small A3,Aa,e1,Aa];rfl
  have hw:=Bi Ak (by omega);have DQ:Mg t f x R many q last st=(if(((many:Int)==0)||(Op.bytesLess (Bu t x R[q]).bd last||(Bu t x R[q]).bd==last))=true then some (.inl ((many:Int),((q+1:Nat):Int),last,st))else if(Bh st (Bu t x R[q]).cm).2=true then some (.inl (IntKind.i64.wrap ((many:Int)-1),((q+1:Nat):Int),(Bu t x R[q]).bd,(Bh st (Bu t x R[q]).cm).1))else some (.inr (SB t f last st))):=by
   unfold Mg;rw [if_pos (decide_eq_true (show(q:Int)<(R.length:Int) by omega)),AL Ak,Aa,Lj hS.name hs.small A3,Aa,e2,Aa,KO,Aa,hw];rw [show(Bu t x R[q]).bd=(AR t R[q]).af from rfl];by_cases hz:((many:Int)==0||(Op.bytesLess (AR t R[q]).af last||(AR t R[q]).af==last))=true
   ·rw [if_pos hz,if_pos hz]
   ·rw [if_neg hz,if_neg hz];by_cases hd:(Bh st (Bu t x R[q]).cm).2=true
    ·rw [if_pos hd,if_neg (by simp [hd])]
    ·rw [if_neg hd,if_pos (by simpa using hd)]
  rw [List.drop_eq_getElem_cons Ak,List.map_cons];unfold E6;by_cases hc:many=0∨behind last (Bu t x R[q]).bd=false
  ·rw [if_pos hc];refine(DF ?_).trans (rT hg hx hl hR m (q+1) many st last (by omega) hm AZ);show Mg t f x R many q last st=_;rw [DQ,if_pos];unfold behind at hc;rcases hc with hc|hc
   ·subst hc;rfl
   ·have hc:(Op.bytesLess (Bu t x R[q]).bd last||(Bu t x R[q]).bd==last)=true:=by
     cases h:(Op.bytesLess (Bu t x R[q]).bd last||(Bu t x R[q]).bd==last)with
     |true=>rfl
     |false=>rw [h]at hc;simp at hc
    rw [hc,Bool.or_true]
  ·rw [if_neg hc];have JO: ¬(((many:Int)==0)||(Op.bytesLess (Bu t x R[q]).bd last||(Bu t x R[q]).bd==last))=true:=by
    rw [not_or]at hc;obtain⟨c1,c2⟩:=hc;unfold behind at c2;have c2:(Op.bytesLess (Bu t x R[q]).bd last||(Bu t x R[q]).bd==last)=false:=by
     cases h:(Op.bytesLess (Bu t x R[q]).bd last||(Bu t x R[q]).bd==last)with
     |false=>rfl
     |true=>rw [h]at c2;simp at c2
    rw [c2,Bool.or_false,beq_iff_eq];omega
   have O9:0<many:=by
    rcases Nat.eq_zero_or_pos many with h|h
    ·exact absurd (.inl h) hc
    ·exact h
   by_cases hd:(Bh st (Bu t x R[q]).cm).2=true
   ·rw [if_pos hd];have F5:IntKind.i64.wrap ((many:Int)-1)=((many-1:Nat):Int):=by rw [Ba (by omega) (by omega)];omega
    refine(DF ?_).trans (rT hg hx hl hR m (q+1) (many-1) _ _ (by omega) (by omega) (Mr ho.1 ho.2 AZ));show Mg t f x R many q last st=_;rw [DQ,if_neg JO,if_pos hd,F5]
   ·rw [if_neg hd];refine Df ?_;show Mg t f x R many q last st=_;rw [DQ,if_neg JO,if_neg hd]
theorem yL {ks:List Af} {last:Af} (hl:ks.length≤2000000):Z7 ks last=some (ks.any fun k=>behind last k):=by
 have go: ∀(m q:Nat),q+m=ks.length→Ay (fun s:Int=>V3 ks last s) (q:Int)=some ((ks.drop q).any fun k=>behind last k):=by
  intro m
  induction m with
  |zero=>intro q hq;rw [List.drop_eq_nil_of_le (show ks.length≤q by omega)];refine Df ?_;unfold V3;rw [if_neg (by rw [decide_eq_true_eq];omega)];rfl
  |succ m ih=>
   intro q hq;have Ak:q<ks.length:=by omega
   rw [List.drop_eq_getElem_cons Ak,List.any_cons];by_cases hb:behind last ks[q]=true
   ·rw [hb,Bool.true_or];refine Df ?_;unfold V3;rw [if_pos (decide_eq_true (show(q:Int)<(ks.length:Int) by omega)),AL Ak,Aa,if_pos (show(!(Op.bytesLess ks[q] last||ks[q]==last))=true from hb)]
   ·rw [Bool.not_eq_true]at hb;rw [hb,Bool.false_or];refine(DF ?_).trans (ih (q+1) (by omega));unfold V3;rw [if_pos (decide_eq_true (show(q:Int)<(ks.length:Int) by omega)),AL Ak,Aa,if_neg (show¬(!(Op.bytesLess ks[q] last||ks[q]==last))=true by rw [←Bool.not_eq_true]at hb;exact hb),Bi Ak (by omega)]
 have:=go ks.length 0 (by omega);rw [List.drop_zero]at this;exact this
theorem zvF {t:Ad} {st:List Ac} (hg:A0 t=true) (hl:st.length≤2000000) (hr:Jp t st=some (rows t st)):V0 t st=some ((rows t st).map fun r=>(AR t r).af):=by
 have hR:=rows_len t st;have Ef: ∀r∈rows t st,Be t r=true:=fun r h=>Kr h;have hS:=GP hg;unfold V0;rw [hr,Aa];generalize rows t st=R at hR Ef;have go: ∀(m q:Nat) (o:List Af),q+m=R.length→o.length=q→Ay (fun s:List (Ab) × Int=>RX t R s.1 s.2) (o,(q:Int))=some (o++(R.drop q).map fun r=>(AR t r).af):=by
  intro m
  induction m with
  |zero=>intro q o hq ho;rw [List.drop_eq_nil_of_le (show R.length≤q by omega)];refine Df ?_;show RX t R o q=_;unfold RX;rw [if_neg (by rw [decide_eq_true_eq];omega)];simp
  |succ m ih=>
   intro q o hq ho;have Ak:q<R.length:=by omega
   have hr:=Ef _ (List.getElem_mem Ak);obtain⟨hs,h2⟩:=IT hg hr;have A3:R[q].ay≠ []:=fun e=>by rw [e]at h2;simp at h2
   rw [List.drop_eq_getElem_cons Ak,List.map_cons];refine(DF (?_:RX t R o q=some (.inl (o++ [(AR t R[q]).af],((q+1:Nat):Int))))).trans ((ih (q+1) _ (by omega) (by simp [ho])).trans (by simp));unfold RX;rw [if_pos (decide_eq_true (show(q:Int)<(R.length:Int) by omega)),AL Ak,Aa,Lj hS.name hs.small A3,Aa,AQ (by rw [AH];omega),Bi Ak (by omega)]
 have:=go R.length 0 [] (by omega) rfl;rw [List.drop_zero,List.nil_append]at this;exact this
theorem zFT {t:Ad} {n:Af} {x:Au} {st:List Ac} (hg:A0 t=true) (hx:EO t n x) (Pt:x.ae=n) (hn:n.length≤2000000) (hl:st.length≤2000000) (hr:PL t st=some (rows t st)):VF t n st=some ((rows t st).map (Bu t x)):=by
 have hR:=rows_len t st;have Ef: ∀r∈rows t st,Be t r=true:=fun r h=>Kr h;have hS:=GP hg;unfold VF;rw [hr,Aa];generalize rows t st=R at hR Ef;have go: ∀(m q:Nat) (o:List B3),q+m=R.length→o.length=q→Ay (fun s:Int × List B3=>RC t n R s.1 s.2) ((q:Int),o)=some (o++(R.drop q).map (Bu t x)):=by
  intro m
  induction m with
  |zero=>intro q o hq ho;rw [List.drop_eq_nil_of_le (show R.length≤q by omega)];refine Df ?_;show RC t n R q o=_;unfold RC;rw [if_neg (by rw [decide_eq_true_eq];omega)];simp
  |succ m ih=>
   intro q o hq ho;have Ak:q<R.length:=by omega
   have hr:=Ef _ (List.getElem_mem Ak);obtain⟨hs,h2⟩:=IT hg hr;have A3:R[q].ay≠ []:=fun e=>by rw [e]at h2;simp at h2
   have iC:Y6 t n R[q]=some (Bu t x R[q]).cm:=by unfold Y6;rw [Ol hS.name hs.small A3,Aa,WT hS hn hx (bM hg hr),Aa];subst Pt;rfl
   rw [List.drop_eq_getElem_cons Ak,List.map_cons];refine(DF (?_:RC t n R q o=some (.inl (((q+1:Nat):Int),o++ [Bu t x R[q]])))).trans ((ih (q+1) _ (by omega) (by simp [ho])).trans (by simp));unfold RC;rw [if_pos (decide_eq_true (show(q:Int)<(R.length:Int) by omega)),AL Ak,Aa,Ol hS.name hs.small A3,Aa,iC,Aa,AQ (by rw [AH];omega),Bi Ak (by omega)];rfl
 have:=go R.length 0 [] (by omega) rfl;rw [List.drop_zero,List.nil_append]at this;exact this
theorem zEn {t:Ad} {n:Af} {st:List Ac} (hl:st.length≤2000000) (hr:K1 t n st=some (Bg t n st)):RU t n st=some ((Bg t n st).map BU):=by
 have hR:=S2 t n st;unfold RU;rw [hr,Aa];generalize Bg t n st=R at hR;have go: ∀(m q:Nat) (o:List B3),q+m=R.length→o.length=q→Ay (fun s:Int × List B3=>RH R s.1 s.2) ((q:Int),o)=some (o++(R.drop q).map BU):=by
  intro m
  induction m with
  |zero=>intro q o hq ho;rw [List.drop_eq_nil_of_le (show R.length≤q by omega)];refine Df ?_;show RH R q o=_;unfold RH;rw [if_neg (by rw [decide_eq_true_eq];omega)];simp
  |succ m ih=>
   intro q o hq ho;have Ak:q<R.length:=by omega
   rw [List.drop_eq_getElem_cons Ak,List.map_cons];refine(DF (?_:RH R q o=some (.inl (((q+1:Nat):Int),o++ [BU R[q]])))).trans ((ih (q+1) _ (by omega) (by simp [ho])).trans (by simp));unfold RH;rw [if_pos (decide_eq_true (show(q:Int)<(R.length:Int) by omega)),AL Ak,Aa,AQ (by rw [AH];omega),Bi Ak (by omega)];rfl
 have:=go R.length 0 [] (by omega) rfl;rw [List.drop_zero,List.nil_append]at this;exact this
theorem zuV {t:Ad} {x:Au} {st:List Ac} (hr:Dc st):((rows t st).map (Bu t x)).Pairwise (fun a b=>bl a.bd b.bd=true):=by unfold rows;rw [List.map_map,List.pairwise_map];refine List.Pairwise.imp_of_mem (fun{a b} ha hb h=> ?_) (List.Pairwise.filter (Cq t) hr);show bl (AR t (B6 a)).af (AR t (B6 b)).af=true;rw [←(Fy (List.mem_filter.1 ha).2).2,←(Fy (List.mem_filter.1 hb).2).2];exact h
theorem zsu {t:Ad} {n:Af} {st:List Ac} (hr:Dc st):((Bg t n st).map BU).Pairwise (fun a b=>bl a.bd b.bd=true):=by unfold Bg;rw [List.map_map,List.pairwise_map];exact(List.Pairwise.filter _ hr).imp fun h=>h
theorem zG2 {s:Aq} {st:List Int} (hs:Ml s=some st) (hl:st.length≤2000000):Z2 s=some (st.all fun y=>decide (y≥2),st.any fun y=>decide (y≥2)):=by
 unfold Z2;rw [hs,Aa];have go: ∀(m q:Nat) (a b:Bool),q+m=st.length→Ay (fun s:Bool × Bool × Int=>R4 st s.1 s.2.1 s.2.2) (a,b,(q:Int))=some (a&&(st.drop q).all (fun y=>decide (y≥2)),b||(st.drop q).any fun y=>decide (y≥2)):=by
  intro m
  induction m with
  |zero=>intro q a b hq;rw [List.drop_eq_nil_of_le (show st.length≤q by omega)];refine Df ?_;show R4 st a b q=_;unfold R4;rw [if_neg (by rw [decide_eq_true_eq];omega)];simp
  |succ m ih=>
   intro q a b hq;have Ak:q<st.length:=by omega
   rw [List.drop_eq_getElem_cons Ak,List.all_cons,List.any_cons,←Bool.and_assoc,←Bool.or_assoc];refine(DF ?_).trans (ih (q+1) _ _ (by omega));show R4 st a b q=_;unfold R4;rw [if_pos (decide_eq_true (show(q:Int)<(st.length:Int) by omega)),AL Ak,Aa,Bi Ak (by omega)]
 have:=go st.length 0 true false (by omega);rw [List.drop_zero,Bool.true_and,Bool.false_or]at this;exact this
theorem zIt {w:Ax} {st:List Int} (hn:st.length=w.ab.bp.length) (hl:st.length≤2000000) (hs: ∀(i:Nat) (hi:i<st.length),∃tb,GN w.ab i=some tb∧Kn w.ab tb=some st[i]):RQ w=some ((st.filter fun y=>decide (y≥2)).length:Int):=by
 have go: ∀(m q c:Nat),q+m=st.length→c≤q→Ay (fun s:Int × Int=>NI w s.1 s.2) ((c:Int),(q:Int))=some ((c+((st.drop q).filter fun y=>decide (y≥2)).length:Nat):Int):=by
  intro m
  induction m with
  |zero=>intro q c hq _;rw [List.drop_eq_nil_of_le (show st.length≤q by omega)];refine Df ?_;show NI w c q=_;unfold NI;rw [if_neg (by rw [decide_eq_true_eq];omega)];simp
  |succ m ih=>
   intro q c hq hc;have Ak:q<st.length:=by omega
   obtain⟨tb,e1,e2⟩:=hs q Ak;have EY:NR st[q]=some (decide (st[q]≥2)):=rfl;have hw:IntKind.i64.wrap ((q:Int)+1)=((q+1:Nat):Int):=by rw [Ba (by omega) (by omega)];omega
   have F5:IntKind.i64.wrap ((c:Int)+1)=((c+1:Nat):Int):=by rw [Ba (by omega) (by omega)];omega
   rw [List.drop_eq_getElem_cons Ak,List.filter_cons];by_cases hg:st[q]≥2
   ·rw [if_pos (decide_eq_true hg),Ao];refine(DF ?_).trans ((ih (q+1) (c+1) (by omega) (by omega)).trans (by rw [show c+1+((st.drop (q+1)).filter fun y=>decide (y≥2)).length=c+(((st.drop (q+1)).filter fun y=>decide (y≥2)).length+1)from by omega]));show NI w c q=_;unfold NI;rw [if_pos (decide_eq_true (show(q:Int)<(w.ab.bp.length:Int) by omega)),e1,Aa,e2,Aa,EY,Aa,if_pos (decide_eq_true hg),hw,F5]
   ·rw [if_neg (by simpa using hg)];refine(DF ?_).trans (ih (q+1) c (by omega) (by omega));show NI w c q=_;unfold NI;rw [if_pos (decide_eq_true (show(q:Int)<(w.ab.bp.length:Int) by omega)),e1,Aa,e2,Aa,EY,Aa,if_neg (by simpa using hg),hw]
 have:=go st.length 0 0 (by omega) (by omega);rw [List.drop_zero,Nat.zero_add]at this;exact this
theorem zsJ {w:Ac} (hw:w.bh=true): ∀(l:List Ac),((Bk wk w l).filter fun y=> !y.bh).length≤l.length
 | []=>by simp [Bk,hw]
 |z::l=>by
  rw [Bk];split
  ·rw [List.filter_cons_of_neg (by simp [hw])];exact List.length_filter_le _ _
  ·split
   ·rw [List.filter_cons_of_neg (by simp [hw]),Ao];exact Nat.le_succ_of_le (List.length_filter_le _ _)
   ·have ih:=zsJ hw l;rw [List.filter_cons];split<;>(simp only [Ao];omega)
theorem rU (st:List Ac) (k:Af):FE st (BU k).cm=([⟨k, [],true⟩],true):=by unfold FE IK;simp [BU,Dz,Bk]
theorem bW {st:List Ac} {k:Af} (hg:B0 st=true):(Bh st (BU k).cm).2=true:=by have hl:=(Ei hg).1.len;have h:=zsJ (w:=⟨k, [],true⟩) rfl st;unfold Bh;rw [rU,if_pos ⟨rfl,by unfold Dk;simp only [List.foldl_cons,List.foldl_nil];omega⟩]
theorem wY (st:List Ac) (t:Ad) (x:Au) (r:AE): ∀(n:Nat) (got:List BP),(IK st (Bu t x r).cm n got).1= []∨(IK st (Bu t x r).cm n got).1= [⟨Bv t x.ae x.bj r, [],false⟩]
 |0,got=> .inl rfl
 |n+1,got=>by
  unfold IK;split
  ·exact wY st t x r n _
  ·simp only [Bu,Dz];simp only [show¬((7:Int)=2)from by decide,show¬((7:Int)=3)from by decide,if_false,if_true];split
   ·split
    ·right;simp [Bk]
    ·left;rfl
   ·left;rfl
theorem zFE {t:Ad} {w:Ac} (hk: ∀r,Be t r=true→(AR t r).af≠w.af): ∀(l:List Ac),(Bk wk w l).filter (Cq t)=l.filter (Cq t):=by
 have Dt: ∀y:Ac,y.af=w.af→Cq t y=false:=fun y hy=>by
  cases h:Cq t y with
  |false=>rfl
  |true=>obtain⟨h1,h2⟩:=Fy h;exact absurd (by rw [←h2,hy]) (hk _ h1)
 intro l
 induction l with
 |nil=>simp [Bk,Dt w rfl]
 |cons z l ih=>
  rw [Bk];split
  ·rw [List.filter_cons_of_neg (by simp [Dt w rfl])]
  ·split
   ·rename_i h;have hz:Cq t z=false:=Dt z h.symm;rw [List.filter_cons_of_neg (by simp [Dt w rfl]),List.filter_cons_of_neg (by simp [hz])]
   ·rw [List.filter_cons,List.filter_cons,ih]
theorem zCD {t:Ad} {x:Au} {r:AE} {st:List Ac} (hg:A0 t=true) (hx:x∈t.ah) (hr:Be t r=true) (AZ:B0 st=true):rows t (Bh st (Bu t x r).cm).1=rows t st:=by
 have M8:=(Ei AZ).2;have hid:st.filter (fun y=> !y.bh)=st:=List.filter_eq_self.2 fun y hy=>by rw [M8 y hy];rfl
 have hl:=(EA hg hx).1;unfold Bh;split
 ·show rows t (Dk st (IK st (Bu t x r).cm 9 []).1)=_;rcases wY st t x r 9 []with e|e
  ·rw [e];unfold Dk;rw [List.foldl_nil,hid]
  ·rw [e];unfold Dk rows;rw [List.foldl_cons,List.foldl_nil];have Ck:(Bk wk ⟨Bv t x.ae x.bj r, [],false⟩ st).filter (fun y=> !y.bh)=Bk wk ⟨Bv t x.ae x.bj r, [],false⟩ st:=List.filter_eq_self.2 fun y hy=>by
    rcases mem_insK_any hy with rfl|hy
    ·rfl
    ·rw [M8 y hy];rfl
   rw [Ck,zFE fun q hq=>Wr hg hl hq hr]
 ·rfl
where
 mem_insK_any {w y:Ac}: ∀{l:List Ac},y∈Bk wk w l→y=w∨y∈l
  | [],h=> .inl (by simpa [Bk]using h)
  |z::l,h=>by
   rw [Bk]at h;split at h
   ·rcases Ag.1 h with h|h
    ·exact .inl h
    ·exact .inr h
   ·split at h
    ·rcases Ag.1 h with h|h
     ·exact .inl h
     ·exact .inr (by simp [h])
    ·rcases Ag.1 h with h|h
     ·exact .inr (by simp [h])
     ·rcases mem_insK_any h with h|h
      ·exact .inl h
      ·exact .inr (by simp [h])
theorem qP {t:Ad} {x:Au} (hg:A0 t=true) (hx:x∈t.ah): ∀(R:List AE) (m n:Nat) (st:List Ac) (last:Af),(∀r∈R,Be t r=true)→B0 st=true→rows t (A5 (R.map (Bu t x)) m n st last).1=rows t st
 | [],m,n,st,last,_,_=>by simp [A5]
 |r::R,0,n,st,last,_,_=>by simp [A5]
 |r::R,m+1,n,st,last,hr,AZ=>by
  rw [List.map_cons];unfold A5;split
  ·have ho:=WW hg hx (hr r (by simp));rw [qP hg hx R m (n+1) _ _ (fun q hq=>hr q (by simp [hq])) (Mr ho.1 ho.2 AZ)];exact zCD hg hx (hr r (by simp)) AZ
  ·rfl
theorem qS {ks:List B3} {m:Nat} {st:List Ac} {last:Af} (hr:ks.Pairwise (fun a b=>bl a.bd b.bd=true)):
  (ks.any fun k=>behind (A5 (ks.filter fun k=>behind last k.bd) m 0 st last).2.2 k.bd)= !((A5 (ks.filter fun k=>behind last k.bd) m 0 st last).2.1==(ks.filter fun k=>behind last k.bd).length):=by
 have Ni:=hr.filter fun k=>behind last k.bd;have hb: ∀k∈ks.filter (fun k=>behind last k.bd),bl last k.bd=true:=fun k hk=>by rw [←Js];simpa using(List.mem_filter.1 hk).2
 have hn:=sU (ks.filter fun k=>behind last k.bd) m 0 st last;have Ct:=bG (ks.filter fun k=>behind last k.bd) m 0 st last Ni hb;have EG:=pieceL_ge (ks.filter fun k=>behind last k.bd) m 0 st last Ni hb;generalize hP:A5 (ks.filter fun k=>behind last k.bd) m 0 st last=p at hn Ct EG;rw [Bool.eq_iff_iff,List.any_eq_true];constructor
 ·rintro⟨k,hk,Q5⟩;rw [Js]at Q5;have hkr:k∈ks.filter fun k=>behind last k.bd:=by
   refine List.mem_filter.2 ⟨hk, ?_⟩;show behind last k.bd=true;rw [Js];rcases EG with e|e
   ·rw [←e];exact Q5
   ·exact Gc e Q5
  obtain⟨i,hi,rfl⟩:=List.getElem_of_mem hkr;have:=Ct i hi;rw [Q5]at this;have h2:=of_decide_eq_true this.symm;rw [Bool.not_eq_true',beq_eq_false_iff_ne];omega
 ·intro h;rw [Bool.not_eq_true',beq_eq_false_iff_ne]at h;have Ak:p.2.1<(ks.filter fun k=>behind last k.bd).length:=by omega
  refine⟨_,(List.mem_filter.1 (List.getElem_mem Ak)).1, ?_⟩;rw [Js,Ct _ Ak];exact decide_eq_true (by omega)
where
 pieceL_ge: ∀(ks:List B3) (m n:Nat) (st:List Ac) (last:Af),ks.Pairwise (fun a b=>bl a.bd b.bd=true)→(∀q∈ks,bl last q.bd=true)→(A5 ks m n st last).2.2=last∨bl last (A5 ks m n st last).2.2=true
  | [],m,n,st,last,_,_=> .inl (by simp [A5])
  |q::ks,0,n,st,last,_,_=> .inl (by simp [A5])
  |q::ks,m+1,n,st,last,hr,hb=>by
   rw [List.pairwise_cons]at hr;unfold A5;split
   ·rcases pieceL_ge ks m (n+1) (Bh st q.cm).1 q.bd hr.2 hr.1 with e|e
    ·rw [e];exact .inr (hb q (by simp))
    ·exact .inr (Gc (hb q (by simp)) e)
   ·exact .inl rfl
theorem qQ: ∀(ks:List B3) (m n:Nat) (st:List Ac) (last:Af),(A5 ks m n st last).2.2=last∨ ∃k∈ks,(A5 ks m n st last).2.2=k.bd
 | [],m,n,st,last=> .inl (by simp [A5])
 |k::ks,0,n,st,last=> .inl (by simp [A5])
 |k::ks,m+1,n,st,last=>by
  unfold A5;split
  ·rcases qQ ks m (n+1) (Bh st k.cm).1 k.bd with e|⟨q,hq,e⟩
   ·exact .inr ⟨k,by simp,e⟩
   ·exact .inr ⟨q,by simp [hq],e⟩
  ·exact .inl rfl
theorem zEe {t:Ad} {n:Af} {x:Au} {st:List Ac} {f:AD} {many:Int} (hg:A0 t=true) (hx:EO t n x) (jD:x∈t.ah) (Pt:x.ae=n) (hn:n.length≤2000000) (Po:t.ae.length=1) (AZ:B0 st=true) (h1:1≤many) (h2:many≤24):
  ∃r,Wh t n st f many=some r∧((VF t n st).bind fun k=>NV k st f many)=some r∧B0 r.1=true∧(r.2.al=f.al∨An r.2.al=true)∧
   r=Lt ((rows t st).map (Bu t x)) f many.toNat st:=by
 have hR:=(Ei AZ).1;have hl:st.length≤2000000:=by have:=hR.len;omega
 have hT: ∀w∈st,FU w:=fun w hw=>Ks (hR.br w hw);have J8:=rows_len t st;have FV: ∀r∈rows t st,Be t r=true:=fun r h=>Kr h;have IG:=Qp (t:=t) (by omega) hl hT;have gB:=sG (t:=t) Po hl hT;have Az: ∀k∈(rows t st).map (Bu t x),Lq k:=fun k hk=>by obtain⟨r,hr,rfl⟩:=List.mem_map.1 hk;exact WW hg jD (FV r hr)
 have Ce:=zuV (t:=t) (x:=x) hR.cf;have EE:((rows t st).map (Bu t x)).length≤2000000:=by rw [List.length_map];omega
 obtain⟨m,rfl⟩:=Int.eq_ofNat_of_zero_le (show 0≤many by omega);have Pf:=xM (f:=f) EE Az AZ h1 h2;rw [Int.toNat_natCast]at Pf ⊢;have JV: ∀k∈((rows t st).map (Bu t x)).filter (fun k=>behind f.al k.bd),Lq k:=fun k hk=>Az k (List.mem_filter.1 hk).1;have DM:=S6 (((rows t st).map (Bu t x)).filter fun k=>behind f.al k.bd) m 0 (last:=f.al) JV AZ;have Nh:rows t (A5 (((rows t st).map (Bu t x)).filter fun k=>behind f.al k.bd) m 0 st f.al).1=rows t st:=by
  have e:((rows t st).map (Bu t x)).filter (fun k=>behind f.al k.bd)=((rows t st).filter fun r=>behind f.al (AR t r).af).map (Bu t x):=by rw [List.filter_map];rfl
  rw [e];exact qP hg jD _ m 0 st f.al (fun r hr=>FV r (List.mem_filter.1 hr).1) AZ
 have FY:=qS (m:=m) (st:=st) (last:=f.al) Ce;have Fu:=qQ (((rows t st).map (Bu t x)).filter fun k=>behind f.al k.bd) m 0 st f.al;refine⟨_, ?_,by rw [zFT hg hx Pt hn hl gB,Aa];exact Pf,DM,by
  rcases Fu with e|⟨k,hk,e⟩
  ·exact .inl e
  ·obtain⟨q,hq,rfl⟩:=List.mem_map.1 (List.mem_filter.1 hk).1;refine .inr ?_;show An (A5 _ m 0 st f.al).2.2=true;rw [e];exact(N8 hg (FV q hq)).1,rfl⟩
 have Kc:Wh t n st f m=SB t f (E6 ((rows t st).map (Bu t x)) m st f.al).2 (E6 ((rows t st).map (Bu t x)) m st f.al).1:=by unfold Wh;rw [AQ (by simp;omega),Jz (GP hg),Aa,hx.at_,Aa,IG,Aa];have:=rT (f:=f) hg jD (R:=rows t st) (by omega) FV (rows t st).length 0 m st f.al (by omega) (by omega) AZ;rw [List.drop_zero]at this;exact this
 rw [Kc,zuX Ce];unfold Lt;generalize hP:A5 (((rows t st).map (Bu t x)).filter fun k=>behind f.al k.bd) m 0 st f.al=p at DM Nh FY;dsimp only;unfold SB;cases UO:f.a6 with
 |true=>simp
 |false=>
  have HZ:=(Ei DM).1;rw [if_neg (by simp),zvF hg (by have:=HZ.len;omega) (Qp (by omega) (by have:=HZ.len;omega) fun w hw=>Ks (HZ.br w hw)),Aa,Nh,yL (by rw [List.length_map];omega),Aa];have e:((rows t st).map fun r=>(AR t r).af).any (fun k=>behind p.2.2 k)=((rows t st).map (Bu t x)).any fun k=>behind p.2.2 k.bd:=by rw [List.any_map,List.any_map];rfl
  rw [e,FY];simp
theorem qB {t:Ad} {n:Af} {f:AD} {K:List Af} (hl:K.length≤2000000) (hK: ∀k∈K,An k=true): ∀(m q many:Nat) (st:List Ac) (last:Af),q+m=K.length→many≤24→B0 st=true→
  Ay (fun s:Int × Int × Ab × List Ac=>NP t n f K s.1 s.2.1 s.2.2.1 s.2.2.2) ((many:Int),(q:Int),last,st)=Zt t n f (E6 ((K.drop q).map BU) many st last).2 (E6 ((K.drop q).map BU) many st last).1
 |0,q,many,st,last,hq,hm,AZ=>by rw [List.drop_eq_nil_of_le (show K.length≤q by omega)];refine Df ?_;show NP t n f K many q last st=_;unfold NP;rw [if_neg (by rw [decide_eq_true_eq];omega)];rfl
 |m+1,q,many,st,last,hq,hm,AZ=>by
  have Ak:q<K.length:=by omega
  have hk:=hK _ (List.getElem_mem Ak);have ho:=WD hk;have KO:=Yt ho.1 ho.2 AZ;have fL:Qd st [(⟨3,K[q], [],0⟩:AA)]=some (Bh st (BU K[q]).cm):=KO;have hw:=Bi Ak (by omega);rw [List.drop_eq_getElem_cons Ak,List.map_cons];unfold E6;by_cases hc:many=0∨behind last (BU K[q]).bd=false
  ·rw [if_pos hc];refine(DF ?_).trans (qB hl hK m (q+1) many st last (by omega) hm AZ);show NP t n f K many q last st=_;unfold NP;have JO:((many:Int)==0||(Op.bytesLess K[q] last||K[q]==last))=true:=by
    rcases hc with hc|hc
    ·subst hc;rfl
    ·unfold behind at hc;cases h:(Op.bytesLess K[q] last||K[q]==last)with
     |true=>simp
     |false=>rw [show(BU K[q]).bd=K[q]from rfl,h]at hc;simp at hc
   rw [if_pos (decide_eq_true (show(q:Int)<(K.length:Int) by omega)),AL Ak,Aa,if_pos JO,hw]
  ·rw [if_neg hc,if_pos (bW AZ)];have O9:0<many:=by
    rcases Nat.eq_zero_or_pos many with h|h
    ·exact absurd (.inl h) hc
    ·exact h
   have JO: ¬((many:Int)==0||(Op.bytesLess K[q] last||K[q]==last))=true:=by
    rw [not_or]at hc;obtain⟨c1,c2⟩:=hc;unfold behind at c2;rw [show(BU K[q]).bd=K[q]from rfl]at c2;cases h:(Op.bytesLess K[q] last||K[q]==last)with
    |true=>rw [h]at c2;simp at c2
    |false=>rw [Bool.or_false,beq_iff_eq];omega
   have F5:IntKind.i64.wrap ((many:Int)-1)=((many-1:Nat):Int):=by rw [Ba (by omega) (by omega)];omega
   refine(DF ?_).trans (qB hl hK m (q+1) (many-1) _ _ (by omega) (by omega) (Mr ho.1 ho.2 AZ));show NP t n f K many q last st=_;unfold NP;rw [if_pos (decide_eq_true (show(q:Int)<(K.length:Int) by omega)),AL Ak,Aa,if_neg JO,fL,Aa,hw,F5];rfl
theorem sH {k:Af}: ∀{l:List Ac},Dc l→(∀w∈l,w.bh=false)→(Bk wk ⟨k, [],true⟩ l).filter (fun y=> !y.bh)=l.filter fun y=>y.af !=k
 | [],_,_=>by simp [Bk]
 |z::l,hr,hg=>by
  obtain⟨h1,h2⟩:=Tn hr;have hz:z.bh=false:=hg z (by simp);have hid: ∀l':List Ac,(∀w∈l',w.bh=false)→l'.filter (fun y=> !y.bh)=l':=fun l' h=>List.filter_eq_self.2 fun y hy=>by rw [h y hy];rfl
  have A3: ∀l':List Ac,(∀y∈l',bl k y.af=true)→l'.filter (fun y=>y.af !=k)=l':=fun l' h=>List.filter_eq_self.2 fun y hy=>by have:=FF (h y hy);simpa using fun e=>this e.symm
  rw [Bk];split
  ·rename_i h;rw [List.filter_cons_of_neg (by simp),hid _ hg];exact(A3 _ fun y hy=>by
    rcases Ag.1 hy with rfl|hy
    ·exact h
    ·exact Gc h (h1 y hy)).symm
  ·split
   ·rename_i h;have h:k=z.af:=h;rw [List.filter_cons_of_neg (by simp),hid _ fun w hw=>hg w (by simp [hw]),List.filter_cons_of_neg (by simp [h])];exact(A3 _ fun y hy=>by rw [h];exact h1 y hy).symm
   ·rename_i h3 h4;rw [List.filter_cons_of_pos (by simp [hz]),List.filter_cons_of_pos (by simpa using fun e=>h4 e.symm),sH h2 fun w hw=>hg w (by simp [hw])]
theorem zwj {t:Ad} {n k:Af} {st:List Ac} (AZ:B0 st=true):Bg t n (Bh st (BU k).cm).1=(Bg t n st).filter fun e=>e !=k:=by
 have hd:=bW (k:=k) AZ;have hR:=Ei AZ;unfold Bh at hd ⊢;split at hd
 ·rename_i h;rw [if_pos h,rU];unfold Dk Bg;rw [List.foldl_cons,List.foldl_nil,sH hR.1.cf hR.2,List.filter_map,List.filter_filter,List.filter_filter];congr 1;apply List.filter_congr;intro y _;simp [Bool.and_comm]
 ·cases hd
theorem oM {t:Ad} {nm:Af}: ∀(K:List Af) (m n:Nat) (st:List Ac) (last:Af),(K.map BU).Pairwise (fun a b=>bl a.bd b.bd=true)→(∀q∈K,bl last q=true)→(∀k∈K,An k=true)→B0 st=true→
  ∃p:Af→Bool,Bg t nm (A5 (K.map BU) m n st last).1=(Bg t nm st).filter p∧(∀k,bl (A5 (K.map BU) m n st last).2.2 k=true→p k=true)∧(∀k,p k=false→k∈K)∧ ∀k∈K,p k=true→bl (A5 (K.map BU) m n st last).2.2 k=true
 | [],m,n,st,last,_,_,_,_=>⟨fun _=>true,by simp only [List.map_nil,A5];exact(List.filter_eq_self.2 fun _ _=>rfl).symm,by simp,by simp,by simp⟩
 |k::K,0,n,st,last,_,hb,_,_=>⟨fun _=>true,by simp only [List.map_cons,A5];exact(List.filter_eq_self.2 fun _ _=>rfl).symm,by simp,by simp,fun q hq _=>by simpa [A5]using hb q hq⟩
 |k::K,m+1,n,st,last,hr,hb,hk,AZ=>by
  have EG:=qS.pieceL_ge (K.map BU) m (n+1) (Bh st (BU k).cm).1 k;rw [List.map_cons,List.pairwise_cons]at hr;rw [List.map_cons];unfold A5;rw [if_pos (bW AZ)];have ho:=WD (hk k (by simp));have vO: ∀q∈K,bl k q=true:=fun q hq=>hr.1 (BU q) (List.mem_map.2 ⟨q,hq,rfl⟩);obtain⟨p,e1,e2,e3,e4⟩:=oM (t:=t) (nm:=nm) K m (n+1) (Bh st (BU k).cm).1 k hr.2 vO (fun q hq=>hk q (by simp [hq])) (Mr ho.1 ho.2 AZ);have EG:=EG hr.2 fun q hq=>by obtain⟨z,hz,rfl⟩:=List.mem_map.1 hq;exact vO z hz
  refine⟨fun e=>p e&&e !=k, ?_,fun e he=> ?_,fun e he=> ?_,fun e hm he=> ?_⟩
  ·show Bg t nm (A5 (K.map BU) m (n+1) (Bh st (BU k).cm).1 k).1=_;rw [e1,zwj AZ,List.filter_filter]
  ·have he:bl (A5 (K.map BU) m (n+1) (Bh st (BU k).cm).1 k).2.2 e=true:=he;have A3:bl k e=true:=by
    rcases EG with g|g
    ·rw [g]at he;exact he
    ·exact Gc g he
   have:=FF A3;show(p e&&e !=k)=true;rw [e2 e he,Bool.true_and,bne_iff_ne];exact fun h=>this h.symm
  ·have he:(p e&&e !=k)=false:=he;rw [Bool.and_eq_false_iff]at he;rcases he with he|he
   ·exact List.mem_cons_of_mem _ (e3 e he)
   ·simp only [bne_eq_false_iff_eq]at he;rw [he];simp
  ·show bl (A5 (K.map BU) m (n+1) (Bh st (BU k).cm).1 k).2.2 e=true;simp only [Ae,bne_iff_ne]at he;rcases Ag.1 hm with rfl|hm
   ·exact absurd rfl he.2
   ·exact e4 e hm he.1
theorem bE {t:Ad} {n:Af} {st:List Ac} (AZ:B0 st=true): ∀k∈Bg t n st,An k=true:=fun k hk=>by unfold Bg at hk;obtain⟨w,hw,rfl⟩:=List.mem_map.1 hk;have:=(Ei AZ).1.br w (List.mem_filter.1 hw).1;unfold CU at this;rw [Ae]at this;exact this.1
theorem zBC {t:Ad} {n:Af} {st:List Ac} {f:AD} {many:Int} (hg:A0 t=true) (hn:n.length≤2000000) (hh: ∀b∈head t n,b≠47) (AZ:B0 st=true) (h1:1≤many) (h2:many≤24):
  ∃r,V8 t n st f many=some r∧((RU t n st).bind fun k=>NV k st f many)=some r∧B0 r.1=true∧(r.2.al=f.al∨An r.2.al=true)∧
   r=Lt ((Bg t n st).map BU) f many.toNat st:=by
 have hR:=(Ei AZ).1;have hl:st.length≤2000000:=by have:=hR.len;omega
 have hT: ∀w∈st,FU w:=fun w hw=>Ks (hR.br w hw);have J8:=S2 t n st;have hS:=GP hg;have Q7:t.ae.length≤2000000:=by have:=hS.name;omega
 have QV:=bE (t:=t) (n:=n) AZ;have IG:=cB (t:=t) (n:=n) Q7 hn hl hT;have gB:=qC (t:=t) (n:=n) Q7 hn hh hl hT;have Az: ∀k∈(Bg t n st).map BU,Lq k:=fun k hk=>by obtain⟨r,hr,rfl⟩:=List.mem_map.1 hk;exact WD (QV r hr)
 have Ce:=zsu (t:=t) (n:=n) hR.cf;have EE:((Bg t n st).map BU).length≤2000000:=by rw [List.length_map];omega
 obtain⟨m,rfl⟩:=Int.eq_ofNat_of_zero_le (show 0≤many by omega);have Pf:=xM (f:=f) EE Az AZ h1 h2;rw [Int.toNat_natCast]at Pf ⊢;have JV: ∀k∈((Bg t n st).map BU).filter (fun k=>behind f.al k.bd),Lq k:=fun k hk=>Az k (List.mem_filter.1 hk).1;have DM:=S6 (((Bg t n st).map BU).filter fun k=>behind f.al k.bd) m 0 (last:=f.al) JV AZ;have Fu:=qQ (((Bg t n st).map BU).filter fun k=>behind f.al k.bd) m 0 st f.al;have FY:=qS (m:=m) (st:=st) (last:=f.al) Ce;have e:((Bg t n st).map BU).filter (fun k=>behind f.al k.bd)=((Bg t n st).filter fun k=>behind f.al k).map BU:=by rw [List.filter_map];rfl
 have Bq: ∃p:Af→Bool,Bg t n (A5 (((Bg t n st).map BU).filter fun k=>behind f.al k.bd) m 0 st f.al).1=(Bg t n st).filter p∧(∀k,bl (A5 (((Bg t n st).map BU).filter fun k=>behind f.al k.bd) m 0 st f.al).2.2 k=true→p k=true):=by have Dd:=Ce.filter fun k=>behind f.al k.bd;rw [e]at Dd ⊢;obtain⟨p,e1,e2,_,_⟩:=oM (t:=t) (nm:=n) _ m 0 st f.al Dd (fun q hq=>by rw [←Js];simpa using(List.mem_filter.1 hq).2) (fun q hq=>QV q (List.mem_filter.1 hq).1) AZ;exact⟨p,e1,e2⟩
 refine⟨_, ?_,by rw [zEn hl gB,Aa];exact Pf,DM, ?_,rfl⟩
 ·have Kc:V8 t n st f m=Zt t n f (E6 ((Bg t n st).map BU) m st f.al).2 (E6 ((Bg t n st).map BU) m st f.al).1:=by
   unfold V8;rw [AQ (by simp;omega),IG,Aa];have:=qB (t:=t) (n:=n) (f:=f) (K:=Bg t n st) (by omega) QV (Bg t n st).length 0 m st f.al (by omega) (by omega) AZ;rw [List.drop_zero]at this;exact this
  rw [Kc,zuX Ce];unfold Lt;generalize hP:A5 (((Bg t n st).map BU).filter fun k=>behind f.al k.bd) m 0 st f.al=p at DM Bq FY;dsimp only;unfold Zt;cases UO:f.a6 with
  |true=>simp
  |false=>
   have HZ:=(Ei DM).1;obtain⟨pr,e1,e2⟩:=Bq;have J1:=S2 t n p.1;rw [if_neg (by simp),cB Q7 hn (by have:=HZ.len;omega) (fun w hw=>Ks (HZ.br w hw)),Aa,yL (by have:=HZ.len;omega),Aa];have e3:(Bg t n p.1).any (fun k=>behind p.2.2 k)=((Bg t n st).map BU).any fun k=>behind p.2.2 k.bd:=by
    rw [e1,List.any_filter,List.any_map];congr 1;funext k;show(pr k&&behind p.2.2 k)=behind p.2.2 k;cases hb:behind p.2.2 k with
    |false=>rw [Bool.and_false]
    |true=>rw [e2 k (by rw [←Js];exact hb)];rfl
   rw [e3,FY];simp
 ·rcases Fu with e|⟨k,hk,e⟩
  ·exact .inl e
  ·obtain⟨q,hq,rfl⟩:=List.mem_map.1 (List.mem_filter.1 hk).1;refine .inr ?_;show An (A5 _ m 0 st f.al).2.2=true;rw [e];exact QV q hq
theorem zvq {k:Af} (h:k≠ []):behind [] k=true:=by
 cases k with
 |nil=>exact absurd rfl h
 |cons b k=>rfl
theorem zvr {k:Af} (h:An k=true):k≠ []:=by rintro rfl;revert h;decide
def KE (t:Ad) (n:Af) (c:Int) (st:List Ac) (f:AD):Prop:= ∀q∈st,Cq t q=true→(f.a6=true∨behind f.al q.af=false)→ ∃w∈st,w.af=Bv t n c (B6 q)
def KB (t:Ad) (n:Af) (st:List Ac) (f:AD):Prop:= ∀w∈st,C6 t n w.af=true→f.a6=false∧behind f.al w.af=true
theorem ztn {t:Ad} {n:Af} {c:Int} {st:List Ac} (AZ:B0 st=true):KE t n c st ⟨[],false⟩:=by
 intro q hq hr h;rcases h with h|h
 ·cases h
 ·have hg:=(Ei AZ).1.br q hq;unfold CU at hg;rw [Ae]at hg;rw [zvq (zvr hg.1)]at h;cases h
theorem zrp {t:Ad} {n:Af} {st:List Ac} (AZ:B0 st=true):KB t n st ⟨[],false⟩:=by intro q hq _;have hg:=(Ei AZ).1.br q hq;unfold CU at hg;rw [Ae]at hg;exact⟨rfl,zvq (zvr hg.1)⟩
theorem zs3 {t t':Ad} {n:Af} {c:Int} {st:List Ac} {f:AD} (h1:t.ae=t'.ae) (h2:t.ar=t'.ar):KE t n c st f↔KE t' n c st f:=by cases t;cases t';dsimp only at h1 h2;subst h1;subst h2;exact Iff.rfl
theorem zro {t t':Ad} {n:Af} {st:List Ac} {f:AD} (h1:t.ae=t'.ae) (h2:t.ar=t'.ar):KB t n st f↔KB t' n st f:=by cases t;cases t';dsimp only at h1 h2;subst h1;subst h2;exact Iff.rfl
section
variable {t:Ad} {a:Bb} {n:Af} {x:Au} {st st':List Ac} {f:AD}
theorem Fo.je (A:Fo t a n x) (hB:QI t a st st') (hn: ∀w∈st,w.bh=false) (hs:2≤x.aq) (h:KE t n x.bj st f):KE t n x.bj st' f:=by
 intro q hq hr hf;obtain⟨Ef,Gi⟩:=Fy hr;obtain⟨Ds,h1|⟨h1,h2⟩⟩:=(hB q).1 hq
 ·obtain⟨e,k⟩:=A.ea h1 hr;have hm:(⟨Eb t a x, [],false⟩:Ac)∈GU t a x:=by
   unfold GU;refine Ai.2 (.inr ?_);rw [if_pos ⟨by rw [A.dv k];exact Yg _ _ _ _,hs⟩];simp
  refine⟨_,(hB _).2 ⟨rfl, .inl (A.ig hm)⟩, ?_⟩;show Eb t a x=_;rw [e,Tt A.tab (A.new k),A.dv k,A.name]
 ·obtain⟨w,w1,w2⟩:=h q h1 hr hf;by_cases ho: ∀z∈D9 t a,z.af≠w.af
  ·exact⟨w,(hB w).2 ⟨hn w w1, .inr ⟨w1,ho⟩⟩,w2⟩
  ·have⟨z,hz,e⟩: ∃z∈D9 t a,z.af=w.af:=by
    apply Classical.byContradiction;intro hc;exact ho fun z hz e=>hc ⟨z,hz,e⟩
   have he:C6 t n z.af=true:=by rw [e,w2,Qk A.tab A.j9 Ef (by have:=A.lr;omega) A.lr.2];simp
   rcases A.eo (A.dh hz he)with⟨e1,k1,_⟩|⟨e1,k2,_⟩
   ·exfalso;have hk:Bv t n x.bj a.bq=Bv t n x.bj (B6 q):=by
     have:z.af=E7 t a x:=by rw [e1]
     rw [e,w2,A.ee k1,A.name]at this;exact this.symm
    have hp:=ztU A.tab A.j9 (A.old k1) Ef hk;obtain⟨u,u1,u2⟩:=A.fc k1;apply h2 u u1;rw [u2,Gi,IV,IV,hp]
   ·exact⟨z,(hB z).2 ⟨by rw [e1], .inl hz⟩,e.trans w2⟩
theorem Fo.iu (A:Fo t a n x) (hB:QI t a st st') (hs:x.aq≤1) (h:KB t n st f):KB t n st' f:=by
 intro y hy he;obtain⟨Ds,h1|h1⟩:=(hB y).1 hy
 ·rcases A.eo (A.dh h1 he)with⟨e,_⟩|⟨_,_,k⟩
  ·rw [e]at Ds;cases Ds
  ·omega
 ·exact h y h1.1 he
theorem sL {ops:List AA} (h:(Bh st ops).2=false):(Bh st ops).1=st:=by
 unfold Bh at h ⊢;split at h
 ·cases h
 ·rename_i q;rw [if_neg q]
theorem zBY (A:Fo t a n x) (hg:B0 st=true) (hs:2≤x.aq) (h:KE t n x.bj st f):KE t n x.bj (Bh st (Ea t a)).1 f:=by
 cases hd:(Bh st (Ea t a)).2 with
 |true=>exact A.je (qD A.ow hg hd).2 (Ei hg).2 hs h
 |false=>rw [sL hd];exact h
theorem zzr (A:Fo t a n x) (hg:B0 st=true) (hs:x.aq≤1) (h:KB t n st f):KB t n (Bh st (Ea t a)).1 f:=by
 cases hd:(Bh st (Ea t a)).2 with
 |true=>exact A.iu (qD A.ow hg hd).2 hs h
 |false=>rw [sL hd];exact h
end
theorem dF {st:List Ac} {w:Ac} (hr:Dc st) (y:Ac):y∈Dk st [w]↔(y=w∨y∈st∧y.af≠w.af)∧y.bh=false:=by unfold Dk;rw [List.mem_filter,List.foldl_cons,List.foldl_nil,Tu hr];simp
theorem zDM {t:Ad} {x:Au} {r:AE} {st:List Ac} (AZ:B0 st=true):
  (∀w∈st,∃w'∈(Bh st (Bu t x r).cm).1,w'.af=w.af)∧(∀w∈(Bh st (Bu t x r).cm).1,w∈st∨w.af=Bv t x.ae x.bj r)∧
   ((Bh st (Bu t x r).cm).2=true→ ∃w∈(Bh st (Bu t x r).cm).1,w.af=Bv t x.ae x.bj r):=by
 obtain⟨hr,hn⟩:=Ei AZ;have hR:=zyo (st:=st) (o:=⟨7,(AR t r).af,(AR t r).bb,0⟩) (rest:= [⟨2,Bv t x.ae x.bj r, [],0⟩]) (by simp) (by simp) (by simp);cases hd:(Bh st (Bu t x r).cm).2 with
 |false=>rw [sL hd];exact⟨fun w hw=>⟨w,hw,rfl⟩,fun w hw=> .inl hw,fun h=>by cases h⟩
 |true=>
  have e:(Bh st (Bu t x r).cm).1=Dk st [⟨Bv t x.ae x.bj r, [],false⟩]:=by
   unfold Bh at hd ⊢;split at hd
   ·rename_i q;rw [if_pos q];show Dk st (FE st [⟨7,(AR t r).af,(AR t r).bb,0⟩,⟨2,Bv t x.ae x.bj r, [],0⟩]).1=_;have q1:(FE st [⟨7,(AR t r).af,(AR t r).bb,0⟩,⟨2,Bv t x.ae x.bj r, [],0⟩]).2=true:=q.1;rw [hR]at q1 ⊢;split at q1
    ·rename_i q2;rw [if_pos q2];rfl
    ·cases q1
   ·cases hd
  rw [e];refine⟨fun w hw=> ?_,fun w hw=> ?_,fun _=>⟨⟨Bv t x.ae x.bj r, [],false⟩,(dF hr.cf _).2 ⟨.inl rfl,rfl⟩,rfl⟩⟩
  ·by_cases hk:w.af=Bv t x.ae x.bj r
   ·exact⟨⟨Bv t x.ae x.bj r, [],false⟩,(dF hr.cf _).2 ⟨.inl rfl,rfl⟩,hk.symm⟩
   ·exact⟨w,(dF hr.cf _).2 ⟨.inr ⟨hw,hk⟩,hn w hw⟩,rfl⟩
  ·rcases(dF hr.cf _).1 hw with⟨rfl|⟨h1,_⟩,_⟩
   ·exact .inr rfl
   ·exact .inl h1
theorem zuZ {t:Ad} {x:Au} (hg:A0 t=true) (hx:x∈t.ah): ∀(R:List AE) (m n:Nat) (st:List Ac) (last:Af),(∀r∈R,Be t r=true)→B0 st=true→
  (∀w∈st,∃w'∈(A5 (R.map (Bu t x)) m n st last).1,w'.af=w.af)∧(∀w∈(A5 (R.map (Bu t x)) m n st last).1,w∈st∨ ∃r∈R,w.af=Bv t x.ae x.bj r)∧
   (∀(i:Nat) (h:i<R.length),n+i<(A5 (R.map (Bu t x)) m n st last).2.1→ ∃w∈(A5 (R.map (Bu t x)) m n st last).1,w.af=Bv t x.ae x.bj R[i])
 | [],m,n,st,last,_,_=>by simp only [List.map_nil,A5];exact⟨fun w hw=>⟨w,hw,rfl⟩,fun w hw=> .inl hw,fun i h=>by simp at h⟩
 |r::R,0,n,st,last,_,_=>by simp only [List.map_cons,A5];exact⟨fun w hw=>⟨w,hw,rfl⟩,fun w hw=> .inl hw,fun i h k=>by omega⟩
 |r::R,m+1,n,st,last,hR,AZ=>by
  obtain⟨s1,s2,s3⟩:=zDM (t:=t) (x:=x) (r:=r) AZ;have ho:=WW hg hx (hR r (by simp));rw [List.map_cons];unfold A5;split
  ·rename_i hd;obtain⟨k1,k2,k3⟩:=zuZ hg hx R m (n+1) (Bh st (Bu t x r).cm).1 (Bu t x r).bd (fun q hq=>hR q (by simp [hq])) (Mr ho.1 ho.2 AZ);refine⟨fun w hw=> ?_,fun w hw=> ?_,fun i h k=> ?_⟩
   ·obtain⟨w',h1,h2⟩:=s1 w hw;obtain⟨w2,h3,h4⟩:=k1 w' h1;exact⟨w2,h3,h4.trans h2⟩
   ·rcases k2 w hw with h|⟨q,hq,e⟩
    ·rcases s2 w h with h|h
     ·exact .inl h
     ·exact .inr ⟨r,by simp,h⟩
    ·exact .inr ⟨q,by simp [hq],e⟩
   ·cases i with
    |zero=>obtain⟨w',h1,h2⟩:=s3 hd;obtain⟨w2,h3,h4⟩:=k1 w' h1;exact⟨w2,h3,h4.trans h2⟩
    |succ i=>exact k3 i (by simpa using h) (by omega)
  ·refine⟨fun w hw=>⟨w,hw,rfl⟩,fun w hw=> .inl hw,fun i h k=> ?_⟩;simp only at k;omega
theorem Tp {t:Ad} {st:List Ac} {r:AE}:r∈rows t st↔ ∃q∈st,Cq t q=true∧B6 q=r:=by
 unfold rows;simp only [List.mem_map,List.mem_filter];constructor
 ·rintro⟨q,⟨h1,h2⟩,e⟩;exact⟨q,h1,h2,e⟩
 ·rintro⟨q,h1,h2,e⟩;exact⟨q,⟨h1,h2⟩,e⟩
theorem dS {t:Ad} {st st':List Ac} (h:rows t st=rows t st') {q:Ac} (hq:q∈st) (hr:Cq t q=true):q∈st':=by
 have h1:B6 q∈rows t st:=Tp.2 ⟨q,hq,hr,rfl⟩;rw [h]at h1;obtain⟨p,hp,h2,e⟩:=Tp.1 h1;have:p=q:=by rw [(Fy h2).2,(Fy hr).2,e]
 rw [←this];exact hp
structure zH9 (t:Ad) (n:Af) (x:Au) (st:List Ac) (f:AD) (r:List Ac × AD):Prop where
 rows:rows t r.1=rows t st
 grow: ∀w∈st,∃w'∈r.1,w'.af=w.af
 back: ∀w∈r.1,w∈st∨ ∃q∈st,Cq t q=true∧w.af=Bv t n x.bj (B6 q)
 filled:KE t n x.bj st f→KE t n x.bj r.1 r.2
theorem zvl {t:Ad} {n:Af} {x:Au} {st:List Ac} {f:AD} {m:Nat} (hg:A0 t=true) (hx:x∈t.ah) (Pt:x.ae=n) (AZ:B0 st=true):
  zH9 t n x st f (Lt ((rows t st).map (Bu t x)) f m st):=by
 unfold Lt;have hR:=(Ei AZ).1;have FV: ∀r∈rows t st,Be t r=true:=fun r h=>Kr h;have Ce:=(zuV (t:=t) (x:=x) hR.cf).filter fun k=>behind f.al k.bd;have hb: ∀k∈((rows t st).map (Bu t x)).filter (fun k=>behind f.al k.bd),bl f.al k.bd=true:=fun k hk=>by rw [←Js];simpa using(List.mem_filter.1 hk).2
 have e:((rows t st).map (Bu t x)).filter (fun k=>behind f.al k.bd)=((rows t st).filter fun r=>behind f.al (AR t r).af).map (Bu t x):=by rw [List.filter_map];rfl
 rw [e]at Ce hb ⊢;have XG: ∀r∈(rows t st).filter (fun r=>behind f.al (AR t r).af),r∈rows t st:=fun r hr=>(List.mem_filter.1 hr).1;have uX: ∀r∈rows t st,behind f.al (AR t r).af=true→r∈(rows t st).filter (fun r=>behind f.al (AR t r).af):=fun r hr h=>List.mem_filter.2 ⟨hr,h⟩;generalize (rows t st).filter (fun r=>behind f.al (AR t r).af)=R at Ce hb XG uX;have hk:=zuZ hg hx R m 0 st f.al (fun r hr=>FV r (XG r hr)) AZ;have Ra:=qP hg hx R m 0 st f.al (fun r hr=>FV r (XG r hr)) AZ;have hl:=bG (R.map (Bu t x)) m 0 st f.al Ce hb;generalize A5 (R.map (Bu t x)) m 0 st f.al=p at hk Ra hl;obtain⟨k1,k2,k3⟩:=hk;refine⟨Ra,k1,fun w hw=> ?_,fun hF q hq hr hf=> ?_⟩
 ·rcases k2 w hw with h|⟨r,hr,e⟩
  ·exact .inl h
  ·obtain⟨q,h1,h2,rfl⟩:=Tp.1 (XG r hr);exact .inr ⟨q,h1,h2,by rw [e,Pt]⟩
 ·have Q9:=dS Ra hq hr;have hold:(f.a6=true∨behind f.al q.af=false)→ ∃w∈p.1,w.af=Bv t n x.bj (B6 q):=fun h=>by
   obtain⟨w,h1,h2⟩:=hF q Q9 hr h;obtain⟨w',h3,h4⟩:=k1 w h1;exact⟨w',h3,h4.trans h2⟩
  cases XN:behind f.al q.af with
  |false=>exact hold (.inr XN)
  |true=>
   have hqr:B6 q∈R:=uX _ (Tp.2 ⟨q,Q9,hr,rfl⟩) (by rw [←(Fy hr).2];exact XN);obtain⟨i,hi,ei⟩:=List.getElem_of_mem hqr;have Ct:=hl i (by rw [List.length_map];exact hi);rw [List.getElem_map,ei,Nat.zero_add]at Ct;have ekey:(Bu t x (B6 q)).bd=q.af:=by show(AR t (B6 q)).af=q.af;rw [←(Fy hr).2]
   rw [ekey,←Js]at Ct;rcases hf with h|h
   ·dsimp only at h;rw [Bool.or_eq_true]at h;rcases h with h|h
    ·exact hold (.inl h)
    ·rw [beq_iff_eq,List.length_map]at h;obtain⟨w,h1,h2⟩:=k3 i hi (by omega);exact⟨w,h1,by rw [h2,ei,Pt]⟩
   ·dsimp only at h;rw [Ct,decide_eq_false_iff_not]at h;obtain⟨w,h1,h2⟩:=k3 i hi (by omega);exact⟨w,h1,by rw [h2,ei,Pt]⟩
theorem zBi {t:Ad} {n k:Af} {st:List Ac} (AZ:B0 st=true) (hg:A0 t=true) (hk:C6 t n k=true):rows t (Bh st (BU k).cm).1=rows t st:=by
 have hd:=bW (k:=k) AZ;have hR:=Ei AZ;unfold Bh at hd ⊢;split at hd
 ·rename_i h;rw [if_pos h,rU];unfold Dk rows;rw [List.foldl_cons,List.foldl_nil,sH hR.1.cf hR.2,List.filter_filter];congr 1;apply List.filter_congr;intro y _;cases hy:Cq t y with
  |false=>rfl
  |true=>rw [Bool.true_and,bne_iff_ne];intro e;obtain⟨h1,h2⟩:=Fy hy;rw [←e,h2,zx2 hg h1]at hk;cases hk
 ·cases hd
theorem ztB {t:Ad} {nm:Af} (hg:A0 t=true): ∀(K:List Af) (m n:Nat) (st:List Ac) (last:Af),(∀k∈K,An k=true∧C6 t nm k=true)→B0 st=true→rows t (A5 (K.map BU) m n st last).1=rows t st
 | [],m,n,st,last,_,_=>by simp [A5]
 |k::K,0,n,st,last,_,_=>by simp [A5]
 |k::K,m+1,n,st,last,hk,AZ=>by
  rw [List.map_cons];unfold A5;split
  ·have ho:=WD (hk k (by simp)).1;rw [ztB hg K m (n+1) _ _ (fun q hq=>hk q (by simp [hq])) (Mr ho.1 ho.2 AZ)];exact zBi AZ hg (hk k (by simp)).2
  ·rfl
structure z6 (t:Ad) (n:Af) (st:List Ac) (f:AD) (r:List Ac × AD):Prop where
 rows:rows t r.1=rows t st
 less: ∀k∈Bg t n r.1,k∈Bg t n st
 ib:KB t n st f→KB t n r.1 r.2
theorem zsX {t:Ad} {n:Af} {st:List Ac} {f:AD} {m:Nat} (hg:A0 t=true) (AZ:B0 st=true):
  z6 t n st f (Lt ((Bg t n st).map BU) f m st):=by
 unfold Lt;have hR:=(Ei AZ).1;have QV:=bE (t:=t) (n:=n) AZ;have Ce:=(zsu (t:=t) (n:=n) hR.cf).filter fun k=>behind f.al k.bd;have hb: ∀k∈((Bg t n st).map BU).filter (fun k=>behind f.al k.bd),bl f.al k.bd=true:=fun k hk=>by rw [←Js];simpa using(List.mem_filter.1 hk).2
 have e:((Bg t n st).map BU).filter (fun k=>behind f.al k.bd)=((Bg t n st).filter fun k=>behind f.al k).map BU:=by rw [List.filter_map];rfl
 rw [e]at Ce hb ⊢;have eG: ∀k∈(Bg t n st).filter (fun k=>behind f.al k),k∈Bg t n st:=fun r hr=>(List.mem_filter.1 hr).1;have uT: ∀k∈Bg t n st,behind f.al k=true→k∈(Bg t n st).filter (fun k=>behind f.al k):=fun r hr h=>List.mem_filter.2 ⟨hr,h⟩;generalize (Bg t n st).filter (fun k=>behind f.al k)=K at Ce hb eG uT;have uU: ∀k∈K,An k=true∧C6 t n k=true:=fun k hk=>by refine⟨QV k (eG k hk), ?_⟩;obtain⟨w,_,h2,e⟩:=GO.1 (eG k hk);rw [e];exact h2
 obtain⟨p,e1,e2,e3,e4⟩:=oM (t:=t) (nm:=n) K m 0 st f.al Ce (fun q hq=>hb (BU q) (List.mem_map.2 ⟨q,hq,rfl⟩)) (fun q hq=>(uU q hq).1) AZ;have Ra:=ztB (nm:=n) hg K m 0 st f.al uU AZ;have hl:=bG (K.map BU) m 0 st f.al Ce hb;generalize A5 (K.map BU) m 0 st f.al=pc at e1 e2 e4 Ra hl;refine⟨Ra,fun k hk=> ?_,fun hC w hw he=> ?_⟩
 ·dsimp only at hk;rw [e1]at hk;exact(List.mem_filter.1 hk).1
 ·have X3:w.af∈Bg t n pc.1:=GO.2 ⟨w,hw,he,rfl⟩;rw [e1,List.mem_filter]at X3;obtain⟨w0,KT,h2,ek⟩:=GO.1 X3.1;obtain⟨c1,c2⟩:=hC w0 KT h2;rw [←ek]at c2;have Rc:=uT _ X3.1 c2;have XM:=e4 _ Rc X3.2;obtain⟨i,hi,ei⟩:=List.getElem_of_mem Rc;have Ct:=hl i (by rw [List.length_map];exact hi);rw [List.getElem_map,Nat.zero_add]at Ct;rw [show(BU K[i]).bd=K[i]from rfl,ei,XM]at Ct;have Ct:=of_decide_eq_true Ct.symm;dsimp only;refine⟨?_,by rw [Js];exact XM⟩;rw [c1,Bool.false_or,beq_eq_false_iff_ne,List.length_map];omega
theorem zFj {t:Ad} {n:Af} {x:Au} {st:List Ac} (hg:A0 t=true) (hx:x∈t.ah) (hn:x.ae=n):(∀k∈wanted t n x st,k∈Bg t n st)↔MR t n x st:=by
 have hl:CH n 1=true:=by rw [←hn];exact(EA hg hx).1
 have hc:=Ca.1 (EA hg hx).2;constructor
 ·intro h q hq hr;obtain⟨w,hw,_,e⟩:=GO.1 (h _ (Qg.2 ⟨q,hq,hr,rfl⟩));exact⟨w,hw,e.symm⟩
 ·intro h k hk;obtain⟨q,hq,hr,rfl⟩:=Qg.1 hk;obtain⟨w,hw,e⟩:=h q hq hr;refine GO.2 ⟨w,hw, ?_,e.symm⟩;rw [e,Qk hg hl (Fy hr).1 (by omega) hc.2];simp
theorem zvc {t:Ad} {n:Af} {x:Au} {st:List Ac} (hg:A0 t=true) (hx:x∈t.ah) (hn:x.ae=n):holds t n x 2 st=true↔MS t n x st∧MR t n x st:=by rw [←uF,←zFj hg hx hn,←WS,←WS];unfold holds;rw [if_neg (by decide)];simp
theorem zBe {t:Ad} {n:Af} {x:Au} {st:List Ac} {f:AD} {r:List Ac × AD} {low:Int} (hg:A0 t=true) (hx:x∈t.ah) (hn:x.ae=n) (h:zH9 t n x st f r) (hl:low=1∨low=2) (hh:holds t n x low st=true):holds t n x low r.1=true:=by
 have hO:MS t n x st→MS t n x r.1:=fun h0 w hw he=>by
  have mv: ∀q∈st,Cq t q=true→q∈r.1:=fun q hq hr=>dS h.rows.symm hq hr;rcases h.back w hw with h1|⟨q,h1,h2,e⟩
  ·obtain⟨q,q1,q2,q3⟩:=h0 w h1 he;exact⟨q,mv q q1 q2,q2,q3⟩
  ·exact⟨q,mv q h1 h2,h2,e⟩
 have hL:MR t n x st→MR t n x r.1:=fun h0 q hq hr=>by obtain⟨w,w1,w2⟩:=h0 q (dS h.rows hq hr) hr;obtain⟨w',h3,h4⟩:=h.grow w w1;exact⟨w',h3,h4.trans w2⟩
 rcases hl with rfl|rfl
 ·exact Tg.2 (hO (Tg.1 hh))
 ·have h2:=(zvc hg hx hn).1 hh;exact(zvc hg hx hn).2 ⟨hO h2.1,hL h2.2⟩
theorem zzk {t:Ad} {n:Af} {x:Au} {st:List Ac} {f:AD} {r:List Ac × AD} {low:Int} (h:z6 t n st f r) (hl:low=0∨low=1) (hh:holds t n x low st=true):holds t n x low r.1=true:=by
 rcases hl with rfl|rfl
 ·refine cD.2 fun w hw=> ?_;have h0:=cD.1 hh;cases he:C6 t n w.af with
  |false=>rfl
  |true=>obtain⟨w0,KT,h2,_⟩:=GO.1 (h.less _ (GO.2 ⟨w,hw,he,rfl⟩));rw [h0 w0 KT]at h2;cases h2
 ·refine Tg.2 fun w hw he=> ?_;obtain⟨w0,KT,h2,e⟩:=GO.1 (h.less _ (GO.2 ⟨w,hw,he,rfl⟩));obtain⟨q,q1,q2,q3⟩:=Tg.1 hh w0 KT h2;exact⟨q,dS h.rows.symm q1 q2,q2,e.trans q3⟩
def FT (f:AD):Bool:=f.al== []||An f.al
theorem xG {f:AD} (h:f.al.length≤2000000):V6 f=some (FT f):=by
 unfold V6 FT;by_cases h0:(f.al==([]:Af))=true
 ·rw [if_pos h0,h0];rfl
 ·rw [if_neg h0,kA h,Aa];rw [Bool.not_eq_true]at h0;rw [h0];rfl
theorem wD {f:AD} (h:f.al.length≤2000000):Wa f=some (FT f):=by
 unfold Wa FT;by_cases h0:(f.al==([]:Af))=true
 ·rw [if_pos h0,h0];rfl
 ·rw [if_neg h0,zGl h,Aa];rw [Bool.not_eq_true]at h0;rw [h0];rfl
theorem zxQ {f:AD} (h:FT f=true):f.al.length≤12:=by
 unfold FT at h;rw [Bool.or_eq_true]at h;rcases h with h|h
 ·rw [beq_iff_eq]at h;rw [h];simp
 ·exact Td h
structure FC (w:Ax):Prop where
 shift:DK w.ab
 up:w.ca.al.length≤2000000
 down:w.az.al.length≤2000000
structure Jc (w:Ax):Prop where
 shift:BN w.ab
 up:FT w.ca=true
 down:FT w.az=true
theorem bY {w:Ax} (hS:FC w): ∃g,Kp w=some g∧K4 w=some g∧(g=true↔Jc w):=by
 obtain⟨g1,e1,f1⟩:=tR hS.shift;obtain⟨g2,e2,f2⟩:=tO hS.shift;have hg:g1=g2:=by rw [Bool.eq_iff_iff,f1,f2]
 subst hg;refine⟨g1&&(FT w.ca&&FT w.az), ?_, ?_, ?_⟩
 ·unfold Kp;rw [e1,Aa,xG hS.up,xG hS.down];cases g1<;>cases FT w.ca<;>rfl
 ·unfold K4;rw [e2,Aa,wD hS.up,wD hS.down];cases g1<;>cases FT w.ca<;>rfl
 ·simp only [Ae];exact⟨fun h=>⟨f1.1 h.1,h.2.1,h.2.2⟩,fun h=>⟨f1.2 h.shift,h.up,h.down⟩⟩
structure kY (w:Ax) (a:BT):Prop where
 ok:a.ak=1∧IL w.ab a.au∨(a.ak=2∨a.ak=3)∧1≤a.b8∧a.b8≤24
def Li (w:Ax) (a:BT):Bool:=
 if a.ak=1 then a.b8==0&&Qm w.ab (EC w.ab a.au.a8) a.au else
 if a.ak=2∨a.ak=3 then BQ a.b8 1 24&&((a.au.a8==0)&&((a.au.bg==0)&&bare a.au.au))else false
theorem zJ {a:BT} {v:Bool}:Zo a v=some (v&&(BQ a.b8 1 24&&((a.au.a8==0)&&((a.au.bg==0)&&bare a.au.au)))):=by have em:oG a.b8=some (BQ a.b8 1 24):=rfl;have eb:Zz a.au.au=some (bare a.au.au):=rfl;unfold Zo;rw [em,eb,Aa,Aa];cases v<;>cases BQ a.b8 1 24<;>cases(a.au.a8==0)<;>cases(a.au.bg==0)<;>rfl
theorem rG {w:Ax} {a:BT} (hg:BN w.ab) (hA:Fk a.au.au):SD w a=some (Li w a):=by
 have e:=zA3 (a:=a.au) hg hA;unfold SD Li;by_cases h1:a.ak=1
 ·rw [if_pos (by simpa using h1),if_pos h1,e,Aa];cases hm:(a.b8==0)<;>rfl
 ·rw [if_neg (by simpa using h1),if_neg h1];by_cases h2:a.ak=2
  ·rw [if_pos (by simpa using h2),if_pos (.inl h2),zJ,h2];rfl
  ·rw [if_neg (by simpa using h2),zJ];by_cases h3:a.ak=3
   ·rw [if_pos (.inr h3),h3];rfl
   ·rw [if_neg (by simp [h2,h3]),show(a.ak==3)=false by simpa using h3];rfl
theorem zGs {a:BT} {v:Bool}:YQ a v=some (v&&(BQ a.b8 1 24&&((a.au.a8==0)&&((a.au.bg==0)&&bare a.au.au)))):=by have em:G9 a.b8 1 24=some (BQ a.b8 1 24):=rfl;have eb:Wc a.au.au=some (bare a.au.au):=rfl;unfold YQ;rw [em,eb,Aa,Aa];cases v<;>cases BQ a.b8 1 24<;>cases(a.au.a8==0)<;>cases(a.au.bg==0)<;>rfl
theorem zxA {w:Ax} {a:BT} (hg:BN w.ab) (hA:Fk a.au.au):VA w a=some (Li w a):=by
 have e:=zBp (a:=a.au) hg hA;unfold VA Li;by_cases h1:a.ak=1
 ·rw [if_pos (by simpa using h1),if_pos h1,e,Aa];cases hm:(a.b8==0)<;>rfl
 ·rw [if_neg (by simpa using h1),if_neg h1];by_cases h2:a.ak=2
  ·rw [if_pos (by simpa using h2),if_pos (.inl h2),zGs,h2];rfl
  ·rw [if_neg (by simpa using h2),zGs];by_cases h3:a.ak=3
   ·rw [if_pos (.inr h3),h3];rfl
   ·rw [if_neg (by simp [h2,h3]),show(a.ak==3)=false by simpa using h3];rfl
theorem uL {w:Ax} {a:BT} (hg:BN w.ab) (h:Li w a=true):kY w a:=by
 unfold Li at h;by_cases h1:a.ak=1
 ·rw [if_pos h1,Ae]at h;exact⟨.inl ⟨h1,zIj hg h.2⟩⟩
 ·rw [if_neg h1]at h;by_cases h2:a.ak=2∨a.ak=3
  ·rw [if_pos h2,Ae]at h;have:=Ca.1 h.1;exact⟨.inr ⟨h2,this⟩⟩
  ·rw [if_neg h2]at h;cases h
theorem zuS {s:Aq} (hS:DK s) (hg:BN s):Ml s=some (CS s):=by
 obtain⟨h1,h4,hA,_,h3,hB,hR⟩:=hg;have h3:=Ca.1 h3;have AZ: ∀y∈s.bp,∃tb x,getI s.aj y=some tb∧tb∈s.aj∧EO tb s.ae x∧BD tb s.ae=x.aq:=fun y hy=>by obtain⟨tb,q1,q2,_⟩:=IX (hB y hy).1 (by have:=(hB y hy).2;omega:y<s.aj.length);obtain⟨x,q3,q4,_⟩:=KA (hA tb q2);exact⟨tb,x,q1,q2,q3,q4⟩
 have hn:(CS s).length=s.bp.length:=by simp [CS]
 have hl:(CS s).length≤2000000:=by have:=hS.at_;omega
 refine zyj (s:=s) (st:=CS s) hn hl fun i hi=> ?_;have EJ:i<s.bp.length:=by omega
 obtain⟨tb,x,q1,q2,q3,q4⟩:=AZ _ (List.getElem_mem EJ);refine⟨s.bp[i],tb,_,x,AL EJ,q1,Jz (hS.way _ q2),q3.at_, ?_⟩;simp only [CS,List.getElem_map,q1,Option.getD_some,q4]
theorem zHW {w:Ax} (hS:DK w.ab) (hg:BN w.ab):RQ w=some (((CS w.ab).filter fun y=>decide (y≥2)).length:Int):=by
 obtain⟨h1,h4,hA,_,h3,hB,hR⟩:=hg;have h3:=Ca.1 h3;have AZ: ∀y∈w.ab.bp,∃tb x,getI w.ab.aj y=some tb∧tb∈w.ab.aj∧EO tb w.ab.ae x∧BD tb w.ab.ae=x.aq:=fun y hy=>by obtain⟨tb,q1,q2,_⟩:=IX (hB y hy).1 (by have:=(hB y hy).2;omega:y<w.ab.aj.length);obtain⟨x,q3,q4,_⟩:=KA (hA tb q2);exact⟨tb,x,q1,q2,q3,q4⟩
 have hn:(CS w.ab).length=w.ab.bp.length:=by simp [CS]
 have hl:(CS w.ab).length≤2000000:=by have:=hS.at_;omega
 refine zIt (w:=w) (st:=CS w.ab) hn hl fun i hi=> ?_;have EJ:i<w.ab.bp.length:=by omega
 obtain⟨tb,x,q1,q2,q3,q4⟩:=AZ _ (List.getElem_mem EJ);refine⟨tb, ?_, ?_⟩
 ·unfold GN;rw [AL EJ,Aa,q1,Aa]
 ·rw [dJ (hS.way _ q2) q3];simp only [CS,List.getElem_map,q1,Option.getD_some,q4]
theorem zIG {s:Aq} (hS:DK s) (hg:BN s) {i:Int} (h:0≤i∧i≤(s.bp.length:Int)-1):GN s i=some (EC s i)∧Kn s (EC s i)=some (BD (EC s i) s.ae)∧getI (CS s) i=some (BD (EC s i) s.ae)∧EC s i∈s.aj∧BD (EC s i) s.ae∈CS s:=by
 obtain⟨y,t,e1,e2,ht,_,_⟩:=TN hg h;have et:EC s i=t:=by unfold EC;rw [e1,Option.getD_some,e2];rfl
 rw [et];obtain⟨x,q3,q4,_⟩:=KA (hg.2.2.1 t ht);obtain⟨k,rfl⟩:=Int.eq_ofNat_of_zero_le h.1;have hk:k<s.bp.length:=by omega
 have ey:s.bp[k]=y:=by rw [AL hk]at e1;exact Option.some.inj e1
 have Jj:k<(CS s).length:=by simp only [CS,List.length_map];exact hk
 have e5:(CS s)[k]=BD t s.ae:=by simp only [CS,List.getElem_map,ey,e2,Option.getD_some]
 refine⟨?_, ?_, ?_,ht, ?_⟩
 ·unfold GN;rw [e1,Aa,e2];rfl
 ·rw [dJ (hS.way _ ht) q3,q4]
 ·rw [AL Jj,e5]
 ·rw [←e5];exact List.getElem_mem Jj
theorem zC (p:Int→Bool): ∀l:List Int,(((l.filter p).length:Int)==(l.length:Int))=l.all p
 | []=>rfl
 |y::l=>by
  have ih:=zC p l;have hle:=List.length_filter_le p l;rw [List.all_cons,←ih,Bool.eq_iff_iff,List.filter_cons];cases hp:p y with
  |true=>simp only [if_true,Ao,beq_iff_eq,Bool.true_and];omega
  |false=>simp only [AW,if_false,Ao,beq_iff_eq,Bool.false_and,iff_false];omega
theorem yF (p:Int→Bool): ∀l:List Int,(((l.filter p).length:Int)==0)= !l.any p
 | []=>rfl
 |y::l=>by
  have ih:=yF p l;rw [List.any_cons,Bool.not_or,←ih,Bool.eq_iff_iff,List.filter_cons];cases hp:p y with
  |true=>simp only [if_true,Ao,beq_iff_eq,Bool.not_true,Bool.false_and,AW,iff_false];omega
  |false=>simp only [AW,if_false,Bool.not_false,Bool.true_and]
def Gf:AD:=⟨[],false⟩
def kH (w:Ax) (m:Nat):List Ac × AD:=Lt ((rows (AN w.ab) w.ab.ao).map (Bu (AN w.ab) (Dx (AN w.ab) w.ab.ae))) w.ca m w.ab.ao
def jS (w:Ax) (m:Nat):List Ac × AD:=Lt ((Bg (AN w.ab) w.ab.ae w.ab.ao).map BU) w.az m w.ab.ao
def Ny (s:Aq) (l:List Ac):Aq:=⟨s.ae,s.aj,s.bp,l⟩
inductive Jd (w:Ax) (a:BT):Ax × Bool→Prop
 |stay:Jd w a (w,false)
 |move (q:Aq) (h1:a.ak=1) (h0:a.au.bg≠0) (ha:IL w.ab a.au) (hd:G7 w.ab a.au=some (q,true)) (hm:Qb w.ab a.au=some true):Jd w a (⟨q,w.ca,w.az⟩,true)
 |pg (q:Aq) (h1:a.ak=1) (h0:a.au.bg=0) (ha:IL w.ab a.au) (hd:G7 w.ab a.au=some (q,true)) (hs:BD (EC w.ab a.au.a8) w.ab.ae≥2):Jd w a (⟨q,w.ca,Gf⟩,true)
 |none (q:Aq) (h1:a.ak=1) (h0:a.au.bg=0) (ha:IL w.ab a.au) (hd:G7 w.ab a.au=some (q,true)) (hs: ¬BD (EC w.ab a.au.a8) w.ab.ae≥2):Jd w a (⟨q,Gf,w.az⟩,true)
 |fill (h2:a.ak=2) (hs:((CS w.ab).all fun y=>decide (y≥2))=true):Jd w a (⟨Ny w.ab (kH w a.b8.toNat).1,(kH w a.b8.toNat).2,Gf⟩,true)
 |clear (h3:a.ak=3) (hs:((CS w.ab).any fun y=>decide (y≥2))=false):Jd w a (⟨Ny w.ab (jS w a.b8.toNat).1,Gf,(jS w a.b8.toNat).2⟩,true)
structure JB (w r:Ax):Prop where
 shift:Ly w.ab r.ab
 up:FT w.ca=true→FT r.ca=true
 down:FT w.az=true→FT r.az=true
 pj:r.ca.al.length≤w.ca.al.length+12
 n6:r.az.al.length≤w.az.al.length+12
theorem JB.refl {w:Ax} (hS:FC w) (hg:BN w.ab):JB w w:=⟨⟨hg,hS.shift,rfl,rfl,rfl⟩,fun h=>h,fun h=>h,by omega,by omega⟩
theorem bX:FT Gf=true:=rfl
theorem zxz {s:Aq} {l:List Ac} (hS:DK s) (hg:BN s) (hl:B0 l=true):Ly s (Ny s l):=by have hr:=(Ei hl).1;have J8:=hr.len;exact⟨⟨hg.1,hg.2.1,hg.2.2.1,hg.2.2.2.1,hg.2.2.2.2.1,hg.2.2.2.2.2.1,hl⟩,⟨hS.name,hS.ways,hS.way,hS.at_,aW (by show l.length≤2000000;omega) hr.br⟩,rfl,rfl,rfl⟩
theorem zx5 {f:AD} {k:Af} {b:Bool} (h:k=f.al∨An k=true):(FT f=true→FT ⟨k,b⟩=true)∧k.length≤f.al.length+12:=by
 rcases h with rfl|h
 ·exact⟨fun g=>g,by omega⟩
 ·refine⟨fun _=> ?_,by have:=Td h;omega⟩;unfold FT;dsimp only;rw [h,Bool.or_true]
theorem uH {w:Ax} (hS:FC w):SP w=some w:=by unfold SP;rw [W7 hS.shift];rfl
theorem sQ {w:Ax} (hS:FC w):SI w=some w:=by unfold SI;rw [zzW hS.shift];rfl
theorem zEs {w:Ax} {a:BT} (hS:FC w) (hg:BN w.ab) (hA:Fk a.au.au) (k1:a.ak=1) (Cb:IL w.ab a.au): ∃r:Ax × Bool,Mm w a.au=some r∧Mi w a.au=some r∧Jd w a r∧JB w r.1:=by
 obtain⟨⟨q,b⟩,d1,d2,hn⟩:=Ql hS.shift hg hA Cb;obtain⟨t1,t2,t3,t4,t5⟩:=zIG hS.shift hg Cb.srv;have AZ:=zuS hS.shift hg;have EY:NR (BD (EC w.ab a.au.a8) w.ab.ae)=some (decide (BD (EC w.ab a.au.a8) w.ab.ae≥2)):=rfl;have hc:=sQ hS;by_cases h0:a.au.bg=0
 ·have hb:(a.au.bg==0)=true:=by simpa using h0
  cases b with
  |false=>
   refine⟨(w,false), ?_, ?_, .stay, .refl hS hg⟩
   ·unfold Mm;simp only [bne,hb,Bool.not_true,Bool.not_false,AW,if_false,if_true,AZ,t3,d1,Aa]
   ·unfold Mi;simp only [bne,hb,hc,Bool.not_true,Bool.not_false,AW,if_false,if_true,d2,Aa]
  |true=>
   cases hd:decide (BD (EC w.ab a.au.a8) w.ab.ae≥2)with
   |true=>
    rw [hd]at EY;refine⟨(⟨q,w.ca,Gf⟩,true), ?_, ?_, .pg q k1 h0 Cb d1 (of_decide_eq_true hd),⟨hn,fun h=>h,fun _=>bX,by dsimp only;omega,by simp [Gf]⟩⟩
    ·unfold Mm;simp only [bne,hb,hd,Bool.not_true,AW,if_false,if_true,AZ,t3,d1,Aa,Bool.and_self];rfl
    ·unfold Mi;simp only [bne,hb,hc,EY,t1,t2,Bool.not_true,AW,if_false,if_true,d2,Aa];rfl
   |false=>
    rw [hd]at EY;refine⟨(⟨q,Gf,w.az⟩,true), ?_, ?_, .none q k1 h0 Cb d1 (of_decide_eq_false hd),⟨hn,fun _=>bX,fun h=>h,by simp [Gf],by dsimp only;omega⟩⟩
    ·unfold Mm;simp only [bne,hb,hd,Bool.not_true,AW,if_false,if_true,AZ,t3,d1,Aa,Bool.and_false];rfl
    ·unfold Mi;simp only [bne,hb,hc,EY,t1,t2,Bool.not_true,AW,if_false,if_true,d2,Aa];rfl
 ·have hb:(a.au.bg==0)=false:=by simpa using h0
  obtain⟨m,m1,m2⟩:=zEQ hS.shift hg hA Cb;cases m with
  |false=>
   refine⟨(w,false), ?_, ?_, .stay, .refl hS hg⟩
   ·unfold Mm;simp only [bne,hb,m1,Bool.not_false,if_true,Aa]
   ·unfold Mi;simp only [bne,hb,hc,m2,Bool.not_false,if_true,Aa]
  |true=>
   cases b with
   |false=>
    refine⟨(w,false), ?_, ?_, .stay, .refl hS hg⟩
    ·unfold Mm;simp only [bne,hb,m1,Bool.not_false,Bool.not_true,AW,if_false,if_true,AZ,t3,d1,Aa]
    ·unfold Mi;simp only [bne,hb,hc,m2,Bool.not_false,Bool.not_true,AW,if_false,if_true,d2,Aa]
   |true=>
    refine⟨(⟨q,w.ca,w.az⟩,true), ?_, ?_, .move q k1 h0 Cb d1 m1,⟨hn,fun h=>h,fun h=>h,by dsimp only;omega,by dsimp only;omega⟩⟩
    ·unfold Mm;simp only [bne,hb,m1,Bool.not_false,Bool.not_true,AW,if_false,if_true,AZ,t3,d1,Aa,Bool.false_and]
    ·unfold Mi;simp only [bne,hb,hc,m2,Bool.not_false,Bool.not_true,AW,if_false,if_true,d2,Aa]
theorem qF {w:Ax} {a:BT} (hS:FC w) (hg:BN w.ab) (hA:Fk a.au.au) (ha:kY w a): ∃r:Ax × Bool,K5 w a=some r∧Mh w a=some r∧Jd w a r∧JB w r.1:=by
 have hln:(CS w.ab).length=w.ab.bp.length:=by simp [CS]
 have hp:=zG2 (zuS hS.shift hg) (by have:=hS.shift.at_;omega);have hh:=zHW (w:=w) hS.shift hg;have h0:=(Kv (s:=w.ab) hg.1).1;have fI:=Fj (first_has' hg);obtain⟨_,_,n1,n2,n3⟩:=Yd (first_has' hg);have hR:=hg.2.2.2.2.2.2;have hc:=sQ hS;rcases ha.ok with⟨k1,Cb⟩|⟨hk,m1,m2⟩
 ·obtain⟨r,e1,e2,e3,e4⟩:=zEs hS hg hA k1 Cb;have kb:(a.ak==1)=true:=by simpa using k1
  refine⟨r, ?_, ?_,e3,e4⟩
  ·unfold K5;simp only [hp,kb,if_true,e1,Aa]
  ·unfold Mh;simp only [kb,if_true,e2,Aa]
 ·have k1:(a.ak==1)=false:=by
   rw [beq_eq_false_iff_ne];rcases hk with h|h<;>omega
  rcases hk with hk|hk
  ·have k2:(a.ak==2)=true:=by simpa using hk
   have k3:(a.ak==3)=false:=by rw [beq_eq_false_iff_ne];omega
   have hq:=zC (fun y=>decide (y≥2)) (CS w.ab);rw [hln]at hq;cases Ck:(CS w.ab).all fun y=>decide (y≥2)with
   |true=>
    rw [Ck]at hp hq;obtain⟨v,f1,f2,f3,f4,f5⟩:=zEe (f:=w.ca) (many:=a.b8) fI.2.2.2.2.2 fI.1 fI.2.2.1 fI.1.name (by omega) n1 hR m1 m2;obtain⟨z,z1,z2⟩:=Is f2;have hl:=zx5 (b:=v.2.a6) f4;refine⟨(⟨Ny w.ab v.1,v.2,Gf⟩,true), ?_, ?_, ?_,⟨zxz hS.shift hg f3,hl.1,fun _=>bX,hl.2,by simp [Gf]⟩⟩
    ·unfold K5;simp only [hp,k1,k2,Bool.and_self,AW,if_false,if_true,h0,f1,Aa];rfl
    ·unfold Mh;simp only [hc,k1,k2,hh,hq,AW,if_false,if_true,h0,z1,z2,Aa];rfl
    ·rw [f5];exact .fill hk Ck
   |false=>
    rw [Ck]at hp hq;refine⟨(w,false), ?_, ?_, .stay, .refl hS hg⟩
    ·unfold K5;simp only [hp,k1,k2,k3,Bool.and_false,Bool.false_and,AW,if_false,Aa]
    ·unfold Mh;simp only [hc,k1,k2,k3,hh,hq,AW,if_false,if_true,Aa]
  ·have k2:(a.ak==2)=false:=by rw [beq_eq_false_iff_ne];omega
   have k3:(a.ak==3)=true:=by simpa using hk
   have hq:=yF (fun y=>decide (y≥2)) (CS w.ab);cases FY:(CS w.ab).any fun y=>decide (y≥2)with
   |false=>
    rw [FY]at hp hq;obtain⟨v,f1,f2,f3,f4,f5⟩:=zBC (f:=w.az) (many:=a.b8) fI.2.2.2.2.2 (by omega) n3 hR m1 m2;obtain⟨z,z1,z2⟩:=Is f2;have hl:=zx5 (b:=v.2.a6) f4;refine⟨(⟨Ny w.ab v.1,Gf,v.2⟩,true), ?_, ?_, ?_,⟨zxz hS.shift hg f3,fun _=>bX,hl.1,by simp [Gf],hl.2⟩⟩
    ·unfold K5;simp only [hp,k1,k2,k3,Bool.false_and,Bool.not_false,Bool.and_self,AW,if_false,if_true,h0,f1,Aa];rfl
    ·unfold Mh;simp only [hc,k1,k2,k3,hh,hq,Bool.not_false,AW,if_false,if_true,h0,z1,z2,Aa];rfl
    ·rw [f5];exact .clear hk FY
   |true=>
    rw [FY]at hp hq;refine⟨(w,false), ?_, ?_, .stay, .refl hS hg⟩
    ·unfold K5;simp only [hp,k1,k2,k3,Bool.false_and,Bool.not_true,Bool.and_false,AW,if_false,Aa]
    ·unfold Mh;simp only [hc,k1,k2,k3,hh,hq,Bool.not_true,AW,if_false,if_true,Aa]
where
 first_has' {s:Aq} (hg:BN s):B8 (AN s) s.ae=true:=hg.2.2.1 _ (Kv (s:=s) hg.1).2
def QN:Ax:=⟨OC,Gf,Gf⟩
structure zJN (w:Ax) (a:BT) (g ga:Bool) (r:Ax × Bool × Bool):Prop where
 gs:Kp w=some g
 gi:K4 w=some g
 as_:Zs w a=some ga
 ai:VN w a=some ga
 ss:Zx w a=some r
 si:ZT w a=some r
 ok:r.2.2=ga
 res:r.1=QN∨JB w r.1
 br:g=true↔Jc w
 on:ga=true→Jc w∧kY w a∧Jd w a (r.1,r.2.1)∧JB w r.1
theorem zD8 {w:Ax} {a:BT} (hS:FC w) (hA:Fk a.au.au): ∃g ga r,zJN w a g ga r:=by
 obtain⟨g,e1,e2,e3⟩:=bY hS;have KP:Zs w a=some (g&&Li w a):=by
  unfold Zs;rw [e1,Aa];cases hg:g with
  |false=>rfl
  |true=>rw [if_pos rfl,rG (e3.1 hg).shift hA];rfl
 have Q2:VN w a=some (g&&Li w a):=by
  unfold VN;rw [e2,Aa];cases hg:g with
  |false=>rfl
  |true=>rw [if_pos rfl,zxA (e3.1 hg).shift hA];rfl
 cases FI:(g&&Li w a)with
 |false=>
  rw [FI]at KP Q2;refine⟨g,false,(QN,false,false),e1,e2,KP,Q2, ?_, ?_,rfl, .inl rfl,e3,fun h=>by cases h⟩
  ·unfold Zx;rw [KP];rfl
  ·unfold ZT;rw [Q2];rfl
 |true=>
  rw [FI]at KP Q2;rw [Ae]at FI;have hK:=e3.1 FI.1;have ha:=uL hK.shift FI.2;obtain⟨r,d1,d2,d3,d4⟩:=qF hS hK.shift hA ha;refine⟨g,true,(r.1,r.2,true),e1,e2,KP,Q2, ?_, ?_,rfl, .inr d4,e3,fun _=>⟨hK,ha,d3,d4⟩⟩
  ·unfold Zx;rw [KP,Aa,if_neg (by simp),uH hS,Aa,d1];rfl
  ·unfold ZT;rw [Q2,Aa,if_neg (by simp),d2];rfl
def Oi (w:Ax):Prop:=KE (AN w.ab) w.ab.ae (Dx (AN w.ab) w.ab.ae).bj w.ab.ao w.ca
def Oa (w:Ax):Prop:=KB (AN w.ab) w.ab.ae w.ab.ao w.az
theorem zG {s:Aq} {a:C4} (hS:DK s) (hg:BN s) (hA:Fk a.au) (Cb:IL s a) (h0:a.bg≠0) {r:Aq × Bool} (hr:G7 s a=some r):r.1.ao=s.ao:=by
 obtain⟨y,t,e1,e2,ht,Ib,hy1⟩:=TN hg Cb.srv;have h1:=hg.1;have h4:=hg.2.1;have w:IntKind.i64.wrap ((s.aj.length:Int)-1)=(s.aj.length:Int)-1:=Ba (by omega) (by omega);have AZ:a.bg=1∨a.bg= -1:=by rcases Cb.step with h|h|h;exact absurd h h0;exact .inl h;exact .inr h
 have w2:IntKind.i64.wrap (y+a.bg)=y+a.bg:=Ba (by omega) (by omega);unfold G7 at hr;rw [W7 hS,Aa,w,if_pos (by simpa using h0)]at hr;simp only [e1,Aa,w2,Ir]at hr;cases hv:BQ (y+a.bg) 0 ((s.aj.length:Int)-1)with
 |false=>rw [hv]at hr;cases hr;rfl
 |true=>rw [hv]at hr;cases hr;rfl
theorem Lb {s:Aq} (hg:BN s):B8 (AN s) s.ae=true:=hg.2.2.1 _ (Kv (s:=s) hg.1).2
theorem zu9 {s r:Aq} (h:r.aj=s.aj):AN r=AN s:=by unfold AN;rw [h]
theorem zzD {w:Ax} {m:Nat} (hg:BN w.ab):B0 (jS w m).1=true:=by have hR:=hg.2.2.2.2.2.2;refine S6 _ m 0 (fun k hk=> ?_) hR;obtain⟨q,hq,rfl⟩:=List.mem_map.1 (List.mem_filter.1 hk).1;exact WD (bE hR q hq)
theorem zBA {w:Ax} {m:Nat} (hg:BN w.ab):B0 (kH w m).1=true:=by have hR:=hg.2.2.2.2.2.2;have fI:=Fj (Lb hg);refine S6 _ m 0 (fun k hk=> ?_) hR;obtain⟨q,hq,rfl⟩:=List.mem_map.1 (List.mem_filter.1 hk).1;exact WW fI.2.2.2.2.2 fI.2.2.1 (Kr hq)
section
variable {w:Ax} {a:BT} {r:Ax × Bool} (hS:FC w) (hg:BN w.ab) (hA:Fk a.au.au)
include hS hg hA
theorem zxx {q:Aq} (h0:a.au.bg=0) (ha:IL w.ab a.au) (hd:G7 w.ab a.au=some (q,true)): ∃t,t=EC w.ab a.au.a8∧t∈w.ab.aj∧Fo t a.au.au w.ab.ae (Dx t w.ab.ae)∧q=Ny w.ab (Bh w.ab.ao (Ea t a.au.au)).1∧(Dx t w.ab.ae).aq=BD t w.ab.ae:=by obtain⟨y,t,e1,e2,ht,FI,e⟩:=xF hS.shift hg hA ha h0;rw [hd]at e;have e:=Option.some.inj e;have eq:=congrArg Prod.fst e;have f:=Fj (hg.2.2.1 t ht);refine⟨t, ?_,ht,zI f.2.2.2.2.2 f.2.2.1 f.1.name FI,eq,f.2.1.symm⟩;unfold EC;rw [e1,Option.getD_some,e2];rfl
theorem zs6 (h:Jd w a r) (hF:Oi w):Oi r.1:=by
 have hR:=hg.2.2.2.2.2.2;have fI:=Fj (Lb hg);cases h with
 |stay=>exact hF
 |move q h1 h0 ha hd hm=>obtain⟨r',k1,_,hn⟩:=Ql hS.shift hg hA ha;rw [hd]at k1;cases k1;have es:=zG hS.shift hg hA ha h0 hd;unfold Oi at hF ⊢;dsimp only at hF ⊢ hn es;rw [zu9 hn.ways,hn.name,es];exact hF
 |pg q h1 h0 ha hd hs=>obtain⟨t,et,ht,A,rfl,e2⟩:=zxx hS hg hA h0 ha hd;rw [←et]at hs;obtain⟨w1,w2,w3⟩:=rH hg ht;unfold Oi at hF ⊢;dsimp only [Ny];rw [show AN (⟨w.ab.ae,w.ab.aj,w.ab.bp,(Bh w.ab.ao (Ea t a.au.au)).1⟩:Aq)=AN w.ab from rfl,←w3];rw [←w3]at hF;exact(zs3 w1 w2).1 (zBY A hR (by rw [e2];exact hs) ((zs3 w1 w2).2 hF))
 |none q h1 h0 ha hd hs=>obtain⟨r',k1,_,hn⟩:=Ql hS.shift hg hA ha;rw [hd]at k1;cases k1;exact ztn hn.br.2.2.2.2.2.2
 |fill h2 hs=>exact(zvl (m:=a.b8.toNat) fI.2.2.2.2.2 fI.2.2.1 fI.1.name hR).filled hF
 |clear h3 hs=>exact ztn (zzD hg)
theorem zrx (h:Jd w a r) (hC:Oa w):Oa r.1:=by
 have hR:=hg.2.2.2.2.2.2;have fI:=Fj (Lb hg);cases h with
 |stay=>exact hC
 |move q h1 h0 ha hd hm=>obtain⟨r',k1,_,hn⟩:=Ql hS.shift hg hA ha;rw [hd]at k1;cases k1;have es:=zG hS.shift hg hA ha h0 hd;unfold Oa at hC ⊢;dsimp only at hC ⊢ hn es;rw [zu9 hn.ways,hn.name,es];exact hC
 |pg q h1 h0 ha hd hs=>obtain⟨r',k1,_,hn⟩:=Ql hS.shift hg hA ha;rw [hd]at k1;cases k1;exact zrp hn.br.2.2.2.2.2.2
 |none q h1 h0 ha hd hs=>obtain⟨t,et,ht,A,rfl,e2⟩:=zxx hS hg hA h0 ha hd;rw [←et]at hs;obtain⟨w1,w2,w3⟩:=rH hg ht;unfold Oa at hC ⊢;dsimp only [Ny];rw [show AN (⟨w.ab.ae,w.ab.aj,w.ab.bp,(Bh w.ab.ao (Ea t a.au.au)).1⟩:Aq)=AN w.ab from rfl];exact(zro w1 w2).1 (zzr A hR (by rw [e2];omega) ((zro w1 w2).2 hC))
 |fill h2 hs=>exact zrp (zBA hg)
 |clear h3 hs=>exact(zsX (m:=a.b8.toNat) fI.2.2.2.2.2 hR).ib hC
theorem zyc (h:Jd w a r) (hh:GR w.ab=true) (hc:E5 w.ab.bp=true):E5 r.1.ab.bp=true∧GR r.1.ab=true:=by
 have hR:=hg.2.2.2.2.2.2;have fI:=Fj (Lb hg);cases h with
 |stay=>exact⟨hc,hh⟩
 |move q h1 h0 ha hd hm=>have e:=zIH hS.shift hg hA ha hd;rw [hm]at e;have e:=Option.some.inj e;simp only [Bool.true_and]at e;have e:=e.symm;rw [Ae]at e;exact e
 |pg q h1 h0 ha hd hs=>exact zu8 hS.shift hg hA ha hd hh hc fun h=>absurd h0 h
 |none q h1 h0 ha hd hs=>exact zu8 hS.shift hg hA ha hd hh hc fun h=>absurd h0 h
 |fill h2 hs=>
  refine⟨hc, ?_⟩;have hn:Hh (CS w.ab)=1∨Hh (CS w.ab)=2:=by
   unfold Hh;split
   ·exact .inr rfl
   ·rw [if_neg (by
     intro h;rw [List.contains_iff_mem]at h;have:=AK.1 hs _ h;simp at this)]
    exact .inl rfl
  exact zBe fI.2.2.2.2.2 fI.2.2.1 fI.1.name (zvl (m:=a.b8.toNat) fI.2.2.2.2.2 fI.2.2.1 fI.1.name hR) hn hh
 |clear h3 hs=>
  refine⟨hc, ?_⟩;have hn:Hh (CS w.ab)=0∨Hh (CS w.ab)=1:=by
   unfold Hh;rw [if_neg (by intro h;rw [List.contains_iff_mem]at h;have:=List.any_eq_false.1 hs _ h;simp at this)]
   split
   ·exact .inl rfl
   ·exact .inr rfl
  exact zzk (zsX (m:=a.b8.toNat) fI.2.2.2.2.2 hR) hn hh
end
theorem JB.small {w r:Ax} (h:JB w r) (hg:Jc w):FC r:=⟨h.shift.small,by have:=zxQ (h.up hg.up);omega,by have:=zxQ (h.down hg.down);omega⟩
theorem JB.br {w r:Ax} (h:JB w r) (hg:Jc w):Jc r:=⟨h.shift.br,h.up hg.up,h.down hg.down⟩
structure Iw (w r:Ax):Prop where
 shift:Ly w.ab r.ab
 br:Jc r
 small:FC r
 filled:Oi w→Oi r
 ib:Oa w→Oa r
 held:GR w.ab=true→E5 w.ab.bp=true→E5 r.ab.bp=true∧GR r.ab=true
theorem Iw.refl {w:Ax} (hS:FC w) (hg:Jc w):Iw w w:=⟨.refl hS.shift hg.shift,hg,hS,fun h=>h,fun h=>h,fun h k=>⟨k,h⟩⟩
theorem Iw.step {w r:Ax} {a:BT} {b:Bool} (hS:FC w) (hg:Jc w) (hA:Fk a.au.au) (h:Jd w a (r,b)) (k:JB w r):Iw w r:=
 ⟨k.shift,k.br hg,k.small hg,zs6 hS hg.shift hA h,zrx hS hg.shift hA h,fun h1 h2=>zyc hS hg.shift hA h h1 h2⟩
theorem Iw.trans {w r q:Ax} (h:Iw w r) (k:Iw r q):Iw w q:=
 ⟨h.shift.trans k.shift,k.br,k.small,fun f=>k.filled (h.filled f),fun f=>k.ib (h.ib f),fun h1 h2=>k.held (h.held h1 h2).2 (h.held h1 h2).1⟩
theorem zBG {w:Ax} {acts:List BT} {bs:List Bool} {q:Nat} (hq:q<acts.length) (hl:acts.length≤1000) (KN:bs.length≤1000) (hS:FC w) (hg:Jc w) (hA: ∀a∈acts,Fk a.au.au):
  ∃(w':Ax) (b:Bool),PQ acts bs q w.ab.ae w.ab.aj w.ab.bp w.ab.ao w.ca.al w.ca.a6 w.az.al w.az.a6=some (.inl (bs++ [b],((q+1:Nat):Int),w'.ab.ae,w'.ab.aj,w'.ab.bp,w'.ab.ao,w'.ca.al,w'.ca.a6,w'.az.al,w'.az.a6))∧
   PS acts q w.ab.ae w.ca.al w.ca.a6 w.az.al w.az.a6 w.ab.aj w.ab.bp w.ab.ao bs=some (.inl (((q+1:Nat):Int),w'.ab.ae,w'.ca.al,w'.ca.a6,w'.az.al,w'.az.a6,w'.ab.aj,w'.ab.bp,w'.ab.ao,bs++ [b]))∧Iw w w':=by
 have Xz:=hA _ (List.getElem_mem hq);have e1:=rG (a:=acts[q]) hg.shift Xz;have e2:=zxA (a:=acts[q]) hg.shift Xz;have hw:=Bi hq (by omega);have hd:decide ((q:Int)<(acts.length:Int))=true:=decide_eq_true (by omega);have eW:(⟨⟨w.ab.ae,w.ab.aj,w.ab.bp,w.ab.ao⟩,⟨w.ca.al,w.ca.a6⟩,⟨w.az.al,w.az.a6⟩⟩:Ax)=w:=rfl;unfold PQ PS;rw [eW,if_pos hd,if_pos hd,AL hq,Aa,Aa,e1,e2,Aa,Aa];cases MZ:Li w acts[q]with
 |false=>
  refine⟨w,false, ?_, ?_,Iw.refl hS hg⟩
  ·simp only [AW,if_false,AQ (Yj KN),hw]
  ·simp only [AW,if_false,AQ (Yj KN),hw]
 |true=>
  obtain⟨r,k1,k2,k3,k4⟩:=qF hS hg.shift Xz (uL hg.shift MZ);refine⟨r.1,r.2, ?_, ?_,Iw.step hS hg Xz k3 k4⟩
  ·simp only [if_true,k1,Aa,AQ (Yj KN),hw]
  ·simp only [if_true,k2,Aa,AQ (Yj KN),hw]
theorem zvb {acts:List BT} (hl:acts.length≤1000) (hA: ∀a∈acts,Fk a.au.au): ∀(n q:Nat) (w:Ax) (bs:List Bool),q+n=acts.length→bs.length=q→FC w→Jc w→
  ∃r:Ax × List Bool,Ay (fun s:List Bool × Int × Ab × List Ad × List Int × List Ac × Ab × Bool × Ab × Bool=>PQ acts s.1 s.2.1 s.2.2.1 s.2.2.2.1 s.2.2.2.2.1 s.2.2.2.2.2.1 s.2.2.2.2.2.2.1 s.2.2.2.2.2.2.2.1 s.2.2.2.2.2.2.2.2.1 s.2.2.2.2.2.2.2.2.2) (bs,(q:Int),w.ab.ae,w.ab.aj,w.ab.bp,w.ab.ao,w.ca.al,w.ca.a6,w.az.al,w.az.a6)=some (r.1,r.2,true)∧
   Ay (fun s:Int × Ab × Ab × Bool × Ab × Bool × List Ad × List Int × List Ac × List Bool=>PS acts s.1 s.2.1 s.2.2.1 s.2.2.2.1 s.2.2.2.2.1 s.2.2.2.2.2.1 s.2.2.2.2.2.2.1 s.2.2.2.2.2.2.2.1 s.2.2.2.2.2.2.2.2.1 s.2.2.2.2.2.2.2.2.2) ((q:Int),w.ab.ae,w.ca.al,w.ca.a6,w.az.al,w.az.a6,w.ab.aj,w.ab.bp,w.ab.ao,bs)=some (r.1,r.2,true)∧Iw w r.1∧r.2.length=acts.length
 |0,q,w,bs,hq,hb,hS,hg=>by
  have hd: ¬decide ((q:Int)<(acts.length:Int))=true:=by rw [decide_eq_true_eq];omega
  refine⟨(w,bs),Df ?_,Df ?_,Iw.refl hS hg,by show bs.length=_;omega⟩
  ·show PQ acts bs q w.ab.ae w.ab.aj w.ab.bp w.ab.ao w.ca.al w.ca.a6 w.az.al w.az.a6=_;unfold PQ;rw [if_neg hd]
  ·show PS acts q w.ab.ae w.ca.al w.ca.a6 w.az.al w.az.a6 w.ab.aj w.ab.bp w.ab.ao bs=_;unfold PS;rw [if_neg hd]
 |n+1,q,w,bs,hq,hb,hS,hg=>by obtain⟨w',b,e1,e2,hn⟩:=zBG (bs:=bs) (q:=q) (by omega) hl (by omega) hS hg hA;obtain⟨r,r1,r2,r3,r4⟩:=zvb hl hA n (q+1) w' (bs++ [b]) (by omega) (by rw [Ar,AH];omega) hn.small hn.br;exact⟨r,(DF (body:=fun s:List Bool × Int × Ab × List Ad × List Int × List Ac × Ab × Bool × Ab × Bool=>PQ acts s.1 s.2.1 s.2.2.1 s.2.2.2.1 s.2.2.2.2.1 s.2.2.2.2.2.1 s.2.2.2.2.2.2.1 s.2.2.2.2.2.2.2.1 s.2.2.2.2.2.2.2.2.1 s.2.2.2.2.2.2.2.2.2) e1).trans r1,(DF (body:=fun s:Int × Ab × Ab × Bool × Ab × Bool × List Ad × List Int × List Ac × List Bool=>PS acts s.1 s.2.1 s.2.2.1 s.2.2.2.1 s.2.2.2.2.1 s.2.2.2.2.2.1 s.2.2.2.2.2.2.1 s.2.2.2.2.2.2.2.1 s.2.2.2.2.2.2.2.2.1 s.2.2.2.2.2.2.2.2.2) e2).trans r2,hn.trans r3,r4⟩
theorem zvM {w:Ax} {acts:List BT} (hS:FC w) (hA: ∀a∈acts,Fk a.au.au): ∃r:Ax × List Bool × Bool,ZO w acts=some r∧ZS w acts=some r∧r.2.1.length≤30∧(r=(QN, [],false)∨Jc w∧Iw w r.1∧r.2.2=true):=by
 obtain⟨g,e1,e2,e3⟩:=bY hS;unfold ZO ZS;rw [e1,e2,Aa,Aa];by_cases h:((!g)||(decide ((acts.length:Int)>30)))=true
 ·rw [if_pos h,if_pos h];exact⟨(QN, [],false),rfl,rfl,by simp, .inl rfl⟩
 ·rw [if_neg h,if_neg h];simp only [Bool.or_eq_true,Bool.not_eq_true',decide_eq_true_eq,not_or,Bool.not_eq_false]at h;have hK:=e3.1 h.1;obtain⟨r,r1,r2,r3,r4⟩:=zvb (by omega) hA acts.length 0 w [] (by omega) rfl hS hK;rw [uH hS,sQ hS,Aa,Aa];exact⟨(r.1,r.2,true),r1,r2,by show r.2.length≤30;omega, .inr ⟨hK,r3,rfl⟩⟩
def Lh (w:Ax):Bool:=(rows (AN w.ab) w.ab.ao).all fun r=> !(w.ca.a6|| !behind w.ca.al (AR (AN w.ab) r).af)||(Bg (AN w.ab) w.ab.ae w.ab.ao).contains (Bv (AN w.ab) w.ab.ae (Dx (AN w.ab) w.ab.ae).bj r)
def Lf (w:Ax):Bool:=(Bg (AN w.ab) w.ab.ae w.ab.ao).all fun k=> !(w.az.a6|| !behind w.az.al k)
theorem bF {w:Ax} (hg:BN w.ab):Lh w=true↔Oi w:=by
 have fI:=Fj (Lb hg);have hl:CH w.ab.ae 1=true:=by rw [←fI.1.name];exact(EA fI.2.2.2.2.2 fI.2.2.1).1
 have hc:=Ca.1 (EA fI.2.2.2.2.2 fI.2.2.1).2;unfold Lh Oi KE;rw [AK];constructor
 ·intro h q hq hr hf;have h1:=h (B6 q) (Tp.2 ⟨q,hq,hr,rfl⟩);rw [←(Fy hr).2]at h1;have e:(w.ca.a6|| !behind w.ca.al q.af)=true:=by
   rcases hf with hf|hf
   ·rw [hf];rfl
   ·rw [hf,Bool.not_false,Bool.or_true]
  rw [e,Bool.not_true,Bool.false_or,List.contains_iff_mem]at h1;obtain⟨v,v1,_,v3⟩:=GO.1 h1;exact⟨v,v1,v3.symm⟩
 ·intro h r hr;obtain⟨q,hq,h2,rfl⟩:=Tp.1 hr;rw [←(Fy h2).2];cases e:(w.ca.a6|| !behind w.ca.al q.af)with
  |false=>rfl
  |true=>rw [Bool.not_true,Bool.false_or,List.contains_iff_mem];rw [Bool.or_eq_true,Bool.not_eq_true']at e;obtain⟨v,v1,v2⟩:=h q hq h2 e;refine GO.2 ⟨v,v1, ?_,v2.symm⟩;rw [v2,Qk fI.2.2.2.2.2 hl (Fy h2).1 (by omega) hc.2];simp
theorem aJ {w:Ax}:Lf w=true↔Oa w:=by
 unfold Lf Oa KB;rw [AK];constructor
 ·intro h v hv he;have:=h v.af (GO.2 ⟨v,hv,he,rfl⟩);rw [Bool.not_eq_true',Bool.or_eq_false_iff,Bool.not_eq_false']at this;exact this
 ·intro h k hk;obtain⟨v,hv,he,rfl⟩:=GO.1 hk;have:=h v hv he;rw [this.1,this.2];rfl
theorem bO (last k:Af):(Op.bytesLess k last||k==last)= !behind last k:=by unfold behind;rw [Bool.not_not]
structure zIK (w:Ax):Prop where
 at0:getI w.ab.aj 0=some (AN w.ab)
 sE:Jq (AN w.ab) w.ab.ae w.ab.ao=some (Bg (AN w.ab) w.ab.ae w.ab.ao)
 iE:K1 (AN w.ab) w.ab.ae w.ab.ao=some (Bg (AN w.ab) w.ab.ae w.ab.ao)
 sR:Jp (AN w.ab) w.ab.ao=some (rows (AN w.ab) w.ab.ao)
 iR:PL (AN w.ab) w.ab.ao=some (rows (AN w.ab) w.ab.ao)
 lE:(Bg (AN w.ab) w.ab.ae w.ab.ao).length≤24
 lR:(rows (AN w.ab) w.ab.ao).length≤24
 nm:w.ab.ae.length≤2000000
 small:Dl (AN w.ab)
theorem TV {w:Ax} (hg:BN w.ab):zIK w:=by have fI:=Fj (Lb hg);obtain⟨_,_,n1,n2,n3⟩:=Yd (Lb hg);have hR:=(Ei hg.2.2.2.2.2.2).1;have hl:=hR.len;have hT: ∀v∈w.ab.ao,FU v:=fun v hv=>Ks (hR.br v hv);have h1:=S2 (AN w.ab) w.ab.ae w.ab.ao;have h2:=rows_len (AN w.ab) w.ab.ao;exact⟨(Kv (s:=w.ab) hg.1).1,cB (by omega) (by omega) (by omega) hT,qC (by omega) (by omega) n3 (by omega) hT,Qp (by omega) (by omega) hT,sG n1 (by omega) hT,by omega,by omega,by omega,GP fI.2.2.2.2.2⟩
theorem zBc {w:Ax} (hg:BN w.ab):nP w=some (Lh w):=by
 have F:=TV hg;have fI:=Fj (Lb hg);have FV: ∀r∈rows (AN w.ab) w.ab.ao,Be (AN w.ab) r=true:=fun r h=>Kr h;have gJ:=F.lR;have O5:=F.lE;unfold nP Lh;rw [F.at0,Aa,F.sE,Aa,F.sR,Aa];generalize rows (AN w.ab) w.ab.ao=R at FV gJ;generalize Bg (AN w.ab) w.ab.ae w.ab.ao=En at O5;rw [Kx (xs:=R) (body:=fun s:Int=>Sb w (AN w.ab) En R s) (fun r=> !(w.ca.a6|| !behind w.ca.al (AR (AN w.ab) r).af)||En.contains (Bv (AN w.ab) w.ab.ae (Dx (AN w.ab) w.ab.ae).bj r)) false (some true) (fun i hi=>by
  have hr:=FV _ (List.getElem_mem hi);obtain⟨hs,h2⟩:=IT fI.2.2.2.2.2 hr;have A3:R[i].ay≠ []:=fun e=>by rw [e]at h2;simp at h2
  have e1:IS (AN w.ab) (Dx (AN w.ab) w.ab.ae) R[i]=some (Bv (AN w.ab) w.ab.ae (Dx (AN w.ab) w.ab.ae).bj R[i]):=WN (by have:=F.small.name;omega) F.nm fI.1 (bM fI.2.2.2.2.2 hr);have e2:decide (BH (fun x=>x==Bv (AN w.ab) w.ab.ae (Dx (AN w.ab) w.ab.ae).bj R[i]) En<0)= !En.contains (Bv (AN w.ab) w.ab.ae (Dx (AN w.ab) w.ab.ae).bj R[i]):=by rw [←Yf,←Od,←decide_not];rw [decide_eq_decide];omega
  have hw:=Bi hi (by omega);have hd:decide ((i:Int)<(R.length:Int))=true:=decide_eq_true (by omega);show Sb w (AN w.ab) En R i=_;unfold Sb;simp only [hd,if_true,AL hi,Aa,Jz F.small,fI.1.at_,e1,kW (xs:=En) (by omega),e2,Lj F.small.name hs.small A3,bO,hw];cases w.ca.a6<;>cases behind w.ca.al (AR (AN w.ab) R[i]).af<;>cases En.contains (Bv (AN w.ab) w.ab.ae (Dx (AN w.ab) w.ab.ae).bj R[i])<;>rfl) (by
  show Sb w (AN w.ab) En R R.length=_;unfold Sb;rw [if_neg (by simp)])]
 cases(R.all fun r=> !(w.ca.a6|| !behind w.ca.al (AR (AN w.ab) r).af)||En.contains (Bv (AN w.ab) w.ab.ae (Dx (AN w.ab) w.ab.ae).bj r))<;>rfl
theorem zBQ {w:Ax} (hg:BN w.ab):FP (rows (AN w.ab) w.ab.ao) (fun y0_=>SA y0_ w w.ab (Bg (AN w.ab) w.ab.ae w.ab.ao))=some (!Lh w):=by
 have F:=TV hg;have fI:=Fj (Lb hg);have FV: ∀r∈rows (AN w.ab) w.ab.ao,Be (AN w.ab) r=true:=fun r h=>Kr h;have gJ:=F.lR;have O5:=F.lE;have h0:=F.at0;unfold Lh;generalize rows (AN w.ab) w.ab.ao=R at FV gJ;generalize Bg (AN w.ab) w.ab.ae w.ab.ao=En at O5;rw [Qz (xs:=R) (p:=fun y0_=>SA y0_ w w.ab En) (fun r=> !(!(w.ca.a6|| !behind w.ca.al (AR (AN w.ab) r).af)||En.contains (Bv (AN w.ab) w.ab.ae (Dx (AN w.ab) w.ab.ae).bj r))) (fun r hrm=>by
  have hr:=FV r hrm;obtain⟨hs,h2⟩:=IT fI.2.2.2.2.2 hr;have A3:r.ay≠ []:=fun e=>by rw [e]at h2;simp at h2
  have e1:=WT F.small F.nm fI.1 (bM fI.2.2.2.2.2 hr);show SA r w w.ab En=_;unfold SA;simp only [h0,Aa,e1,kB (xs:=En) (by omega),Ol F.small.name hs.small A3,bO];cases w.ca.a6<;>cases behind w.ca.al (AR (AN w.ab) r).af<;>cases En.contains (Bv (AN w.ab) w.ab.ae (Dx (AN w.ab) w.ab.ae).bj r)<;>rfl) (by omega),List.not_all_eq_any_not]
theorem zy6 {w:Ax} (hg:BN w.ab):nB w=some (Lf w):=by
 have F:=TV hg;have O5:=F.lE;unfold nB Lf;rw [F.at0,Aa,F.sE,Aa];generalize Bg (AN w.ab) w.ab.ae w.ab.ao=En at O5;rw [Kx (xs:=En) (body:=fun s:Int=>RW w En s) (fun k=> !(w.az.a6|| !behind w.az.al k)) false (some true) (fun i hi=>by
  have hw:=Bi hi (by omega);have hd:decide ((i:Int)<(En.length:Int))=true:=decide_eq_true (by omega);show RW w En i=_;unfold RW;simp only [hd,if_true,AL hi,Aa,bO,hw];cases w.az.a6<;>cases behind w.az.al En[i]<;>rfl) (by
  show RW w En En.length=_;unfold RW;rw [if_neg (by simp)])]
 cases(En.all fun k=> !(w.az.a6|| !behind w.az.al k))<;>rfl
theorem zzC {w:Ax} (hg:BN w.ab):FP (Bg (AN w.ab) w.ab.ae w.ab.ao) (fun y0_=>R8 y0_ w)=some (!Lf w):=by
 have F:=TV hg;have O5:=F.lE;unfold Lf;generalize Bg (AN w.ab) w.ab.ae w.ab.ao=En at O5;rw [Qz (xs:=En) (p:=fun y0_=>R8 y0_ w) (fun k=> !(!(w.az.a6|| !behind w.az.al k))) (fun k _=>by show R8 k w=_;unfold R8;rw [bO,Bool.not_not]) (by omega),List.not_all_eq_any_not]
structure zKm (w:Ax) (g:Bool):Prop where
 gs:Kp w=some g
 gi:K4 w=some g
 fs:ZW w=some (if g=true then(Lh w,true)else(false,false))
 fi:NT w=some (if g=true then(Lh w,true)else(false,false))
 cs:ZJ w=some (if g=true then(Lf w,true)else(false,false))
 ci:NM w=some (if g=true then(Lf w,true)else(false,false))
 br:g=true↔Jc w
theorem Yx {w:Ax} (hS:FC w): ∃g,zKm w g:=by
 obtain⟨g,e1,e2,e3⟩:=bY hS;cases g with
 |false=>
  refine⟨false,e1,e2, ?_, ?_, ?_, ?_,e3⟩
  ·unfold ZW;rw [e1];rfl
  ·unfold NT;rw [e2];rfl
  ·unfold ZJ;rw [e1];rfl
  ·unfold NM;rw [e2];rfl
 |true=>
  have hg:=(e3.1 rfl).shift;have F:=TV hg;refine⟨true,e1,e2, ?_, ?_, ?_, ?_,e3⟩
  ·unfold ZW;rw [e1,Aa,if_neg (by simp),zBc hg];rfl
  ·unfold NT;rw [e2,Aa,if_neg (by simp),F.at0,Aa,F.iE,Aa,F.iR,Aa,zBQ hg,Aa,Bool.not_not];rfl
  ·unfold ZJ;rw [e1,Aa,if_neg (by simp),zy6 hg];rfl
  ·unfold NM;rw [e2,Aa,if_neg (by simp),F.at0,Aa,F.iE,Aa,zzC hg,Aa,Bool.not_not];rfl
end Go.Proofs.YtbmbkgalkfmjdaaGreatDoor
end

/- Parts of a proof, joined: NB, NKA, NW, NY, NSA, NO, NKC, NDD, NKD, NZ, NKE, NWK, NWL, NWM, NWN, NWO, NWR, NWP, NWT, NWQ, NWX. -/
import Derived.Test.YtbmbkgalkfmjdaaGreatDoorZ10
set_option linter.unusedVariables false
set_option linter.unusedSimpArgs false
section
namespace Go.Proofs.YtbmbkgalkfmjdaaGreatDoor
open Go.RowKit
set_option maxRecDepth 100000
set_option maxHeartbeats 1000000
theorem pN {got:List BO}: ∀(l:List Ay) (ws:List Ac),(∀p∈l,p.aj=2∨p.aj=3)→Dy got l ws=(3, [],(l.map Ic).foldl (fun o w=>Bj wk w o) ws)
 | [],ws,_=>rfl
 |o::l,ws,h=>by
  have hl: ∀p∈l,p.aj=2∨p.aj=3:=fun p hp=>h p (by simp [hp]);rw [Dy,List.map_cons,List.foldl_cons];rcases h o (by simp)with k|k
  ·rw [if_pos k,pN l _ hl];unfold Ic;rw [if_neg (by omega)]
  ·rw [if_neg (by omega),if_pos k,pN l _ hl];unfold Ic;rw [if_pos k]
theorem zxM {st:List Ac} {o:Ay} {rest:List Ay} (h2:o.aj≠2) (h3:o.aj≠3) (hr: ∀p∈rest,p.aj=2∨p.aj=3):
  FC st (o::rest)=if GR o (Dj st o.af).a7 (Dj st o.af).dn=true then((rest.map Ic).foldl (fun o w=>Bj wk w o) [],true)else([],false):=by
 have hgk:(Dj st o.af).af=o.af:=by unfold Dj;cases st.find? (fun w=>w.af==o.af)<;>rfl
 have BN:Dy [] (o::rest) []=(1,o.af, []):=by rw [Dy,if_neg h2,if_neg h3,if_neg (by simp [Dk,Oo])]
 have AZ:Dk [] [Dj st o.af] o.af=((Dj st o.af).a7,(Dj st o.af).dn,true):=by unfold Dk Oo;rw [List.find?_nil,List.find?_cons,show((Dj st o.af).af==o.af)=true by rw [hgk];simp]
 have A6:Dy [Dj st o.af] (o::rest) []=if GR o (Dj st o.af).a7 (Dj st o.af).dn=true then(3, [],(rest.map Ic).foldl (fun o w=>Bj wk w o) [])else(2, [], []):=by rw [Dy,if_neg h2,if_neg h3,AZ,if_pos rfl,pN rest [] hr]
 unfold FC;rw [IJ,BN,if_pos rfl,IJ];show(if(Dy [Dj st o.af] (o::rest) []).1=1 then _ else((Dy [Dj st o.af] (o::rest) []).2.2,(Dy [Dj st o.af] (o::rest) []).1==3))=_;rw [A6];by_cases hk:GR o (Dj st o.af).a7 (Dj st o.af).dn=true
 ·rw [if_pos hk,if_pos hk,if_neg (by simp)];rfl
 ·rw [if_neg hk,if_neg hk,if_neg (by simp)];rfl
theorem pW {t:Ad} {a:Bf} (A:Fm t a) {st:List Ac} (hg:BZ st=true) (h:(Bg st (D7 t a)).2=true):Yj t a st∧Qq t a st (Bg st (D7 t a)).1:=by
 obtain⟨hr,hn⟩:=Eg hg;obtain⟨o,rest,e,hw,hk,h1,h7⟩:=zzh t a;have hk67:o.aj=6∨o.aj=7:=by
  by_cases k:a.aj=1
  ·rw [h1 k];exact .inl rfl
  ·rw [h7 k];exact .inr rfl
 have hR:=zxM (st:=st) (o:=o) (rest:=rest) (by omega) (by omega) hk;rw [e]at h ⊢;unfold Bg at h ⊢;rw [hR]at h ⊢;by_cases Ax:GR o (Dj st o.af).a7 (Dj st o.af).dn=true
 ·rw [if_pos Ax,hw]at h ⊢;by_cases hl:(Dh st ((D6 t a).foldl (fun o w=>Bj wk w o) [])).length≤24
  ·rw [if_pos ⟨rfl,hl⟩];refine⟨⟨fun k w hm he=> ?_,fun k=> ?_⟩,A.behind hr.cd⟩
   ·rw [h1 k]at Ax;unfold GR Dj at Ax;rw [if_pos rfl]at Ax;cases ef:st.find? (fun w=>w.af==(AQ t a.bw).af)with
    |some z=>rw [ef]at Ax;cases Ax
    |none=>rw [List.find?_eq_none]at ef;exact absurd (by simpa using he) (ef w hm)
   ·rw [h7 k]at Ax;unfold GR Dj at Ax;rw [if_neg (by simp)]at Ax;cases ef:st.find? (fun w=>w.af==(AQ t a.bq).af)with
    |none=>rw [ef]at Ax;cases Ax
    |some z=>
     rw [ef]at Ax;simp only [Bool.true_and,beq_iff_eq]at Ax;have hz:=List.mem_of_find?_eq_some ef;have Nd:z.af=(AQ t a.bq).af:=by simpa using List.find?_some ef
     have u9:=hn z hz;have:z=AQ t a.bq:=by cases z;simp only at Ax Nd u9;rw [Ax,Nd,u9];rfl
     rw [←this];exact hz
  ·rw [if_neg fun q=>hl q.2]at h;cases h
 ·rw [if_neg Ax]at h;rw [if_neg (by simp)]at h;cases h
theorem zBB {t:Ad} {a:Bf} {n:Af} {x:At} {st:List Ac} {low:Int} (A:Fl t a n x) (hg:BZ st=true) (hl:low=0∧x.aq≤1∨low=1∧1≤x.aq∨low=2∧2≤x.aq)
  (h:holds t n x low st=true):holds t n x low (Bg st (D7 t a)).1=true:=by
 cases hd:(Bg st (D7 t a)).2 with
 |true=>obtain⟨hA,hB⟩:=pW A.ov hg hd;exact zJK A hg hA hB hl h
 |false=>
  have:(Bg st (D7 t a)).1=st:=by
   unfold Bg at hd ⊢;split at hd
   ·cases hd
   ·rename_i q;rw [if_neg q]
  rw [this];exact h
theorem zDD {t:Ad} {n:Af} {c:Int} (h:B6 t n=true):(Du (C7 t (Ci t n) c) n).aq=c:=by
 obtain⟨x,hx,_⟩:=Kt h;have hl:=(N4 hx.at_).2.2;have h0:=(N4 hx.at_).1;have e1: ∀l:List At,BH (fun x:At=>x.ab==n) l=BH (· ==n) (l.map (·.ab)):=fun l=>by
  induction l with
  |nil=>rfl
  |cons x l ih=>rw [List.map_cons,NT,NT,ih]
 have hk:Ci (C7 t (Ci t n) c) n=Ci t n:=by unfold Ci;rw [e1,e1,Wj]
 have Jg:(Ci t n).toNat<t.ah.length:=by have:BH (fun y:At=>y.ab==n) t.ah=Ci t n:=rfl;rw [this]at hl h0;omega
 unfold Du;rw [hk];unfold C7;dsimp only;rw [List.getElem?_set_self Jg];rfl
theorem qM {α:Type}: ∀(xs a:List α),xs.foldl (fun o x=>o++ [x]) a=a++xs
 | [],a=>by simp
 |x::xs,a=>by rw [List.foldl_cons,qM xs (a++ [x])];simp
theorem yD {o p:List Ad} (h:o.length≤2000001) (hn:p.length≤5):((o.length:Int)+(p.length:Int))*64≤140737488355328∧(o.length:Int)+(p.length:Int)≤140737488355328:=by omega
theorem zzE {s:Au} (hS:DS s):VG s=some s:=by
 have h1:=hS.at_;have h2:=hS.store.1;have h3:=hS.ways;have c1:lF s.bp=some s.bp:=NW (by omega) (by omega);have c2:PC s.ao=some s.ao:=NW (by omega) (by omega);unfold VG;rw [c1,c2,Aa,Aa];have h:=F7 (xs:=s.ak) (body:=fun q:Int × List Ad=>R3 s s.bp s.ao q.1 q.2) (fun i (o:List Ad)=>(i,o)) (fun o t=>o++ [t]) (fun o=>some ⟨s.ab,o,s.bp,s.ao⟩) (fun i o=>o.length=i)
  (fun i hi o hI=>by have hI:o.length=i:=hI;refine⟨?_,by show List.length _=_;rw [Ar,AH];omega⟩;show R3 s s.bp s.ao i o=_;unfold R3;rw [if_pos (by simpa using hi),AN hi,Aa,tH (hS.way _ (List.getElem_mem hi)),Aa,AT (yD (by omega) (by simp)),Bl hi (by omega)])
  (fun o _=>by show R3 s s.bp s.ao s.ak.length o=_;unfold R3;rw [if_neg (by simp)]) (s:= []) rfl
 rw [qM]at h;exact h.1
theorem W0 {s:Au} (hS:DS s):SF s=some s:=by
 have h1:=hS.at_;have h2:=hS.store.1;have h3:=hS.ways;have c1:aS s.bp=some s.bp:=by unfold aS;rw [AT (by rw [List.length_nil];omega)]
 have hq:((([]:List Ac).length:Int)+((s.ao).length:Int))*40≤140737488355328∧(([]:List Ac).length:Int)+((s.ao).length:Int)≤140737488355328:=by rw [List.length_nil];omega
 unfold SF;rw [c1,Aa,AT hq];have h:=F7 (xs:=s.ak) (body:=fun q:Int × List Ad=>Sr s s.bp q.1 q.2) (fun i (o:List Ad)=>(i,o)) (fun o t=>o++ [t]) (fun o=>some ⟨s.ab,o,s.bp,s.ao⟩) (fun i o=>o.length=i)
  (fun i hi o hI=>by have hI:o.length=i:=hI;refine⟨?_,by show List.length _=_;rw [Ar,AH];omega⟩;show Sr s s.bp i o=_;unfold Sr;rw [if_pos (by simpa using hi),AN hi,Aa,jO (hS.way _ (List.getElem_mem hi)),Aa,AT (yD (by omega) (by simp)),Bl hi (by omega)])
  (fun o _=>by show Sr s s.bp s.ak.length o=_;unfold Sr;rw [if_neg (by simp)]) (s:= []) rfl
 rw [qM]at h;exact h.1
def bare (a:Bf):Bool:=((a.aj==0)&&((a.bq.ax.length:Int)==0))&&((a.bw.ax.length:Int)==0)
structure IK (s:Au) (a:Dv):Prop where
 srv:0≤a.a6∧a.a6≤(s.bp.length:Int)-1
 step:a.bd=0∨a.bd=1∨a.bd= -1
 act:a.bd=0→ ∃y t,getI s.bp a.a6=some y∧getI s.ak y=some t∧t∈s.ak∧HO t a.ay=true
theorem IS {t:Ad} {n:Af} (h:B6 t n=true):A0 t=true:=by unfold B6 at h;simp only [Ae]at h;exact h.1
theorem TB {s:Au} (hg:BR s) {i:Int} (h:0≤i∧i≤(s.bp.length:Int)-1): ∃y t,getI s.bp i=some y∧getI s.ak y=some t∧t∈s.ak∧0≤y∧y≤(s.ak.length:Int)-1:=by obtain⟨y,e1,hy,_⟩:=IX (xs:=s.bp) h.1 (by omega);have hb:=hg.2.2.2.2.2.1 y hy;obtain⟨t,e2,ht,_⟩:=IX (xs:=s.ak) hb.1 (by omega);exact⟨y,t,e1,e2,ht,hb.1,hb.2⟩
def Qb (s:Au) (t:Ad) (a:Dv):Bool:=
 BP a.a6 0 ((s.bp.length:Int)-1)&&(if a.bd=0 then HO t a.ay else if a.bd=1∨a.bd= -1 then bare a.ay else false)
def EA (s:Au) (i:Int):Ad:=(getI s.ak ((getI s.bp i).getD 0)).getD Ng
theorem zAL {s:Au} {a:Dv} (hg:BR s) (hA:F9 a.ay):Z1 s a=some (Qb s (EA s a.a6) a):=by
 have h3:=B7.1 hg.2.2.2.2.1;have w:IntKind.i64.wrap ((s.bp.length:Int)-1)=(s.bp.length:Int)-1:=Bc (by omega) (by omega);unfold Z1 Qb;rw [w,Iq,Aa];cases hv:BP a.a6 0 ((s.bp.length:Int)-1)with
 |false=>rfl
 |true=>
  obtain⟨y,t,e1,e2,ht,_,_⟩:=TB hg (B7.1 hv);have hc:=Jt (IS (hg.2.2.1 t ht));have et:EA s a.a6=t:=by unfold EA;rw [e1,Option.getD_some,e2];rfl
  rw [et,if_neg (by simp),Bool.true_and];by_cases h0:a.bd=0
  ·rw [if_neg (by simp [h0]),if_pos (by simpa using h0),if_pos h0,e1,Aa,e2,Aa,pV (by omega) hA];rfl
  ·rw [if_neg h0];by_cases h1:a.bd=1∨a.bd= -1
   ·rw [if_pos (by simpa using h1),if_pos h1];rfl
   ·rw [if_neg (by simpa using h1),if_neg h1,if_neg (by simpa using h0)]
theorem zBt {s:Au} {a:Dv} (hg:BR s) (hA:F9 a.ay):YN s a=some (Qb s (EA s a.a6) a):=by
 have h3:=B7.1 hg.2.2.2.2.1;have w:IntKind.i64.wrap ((s.bp.length:Int)-1)=(s.bp.length:Int)-1:=Bc (by omega) (by omega);unfold YN Qb;rw [w,K2,Aa];cases hv:BP a.a6 0 ((s.bp.length:Int)-1)with
 |false=>rfl
 |true=>
  obtain⟨y,t,e1,e2,ht,_,_⟩:=TB hg (B7.1 hv);have hc:=Jt (IS (hg.2.2.1 t ht));have et:EA s a.a6=t:=by unfold EA;rw [e1,Option.getD_some,e2];rfl
  have LL:GL s a.a6=some t:=by unfold GL;rw [e1,Aa,e2];rfl
  rw [et,if_neg (by simp),Bool.true_and];by_cases h0:a.bd=0
  ·rw [if_pos (by simpa using h0),if_pos h0,LL,Aa,zAM (by omega) hA];rfl
  ·rw [if_neg (by simpa using h0),if_neg h0];by_cases h1:a.bd=1
   ·rw [if_pos (by simpa using h1),if_pos (.inl h1)];rfl
   ·rw [if_neg (by simpa using h1)];by_cases h2:a.bd= -1
    ·rw [if_pos (by simpa using h2),if_pos (.inr h2)];rfl
    ·rw [if_neg (by simpa using h2),if_neg (by simp [h1,h2])]
theorem zIt {s:Au} {a:Dv} (hg:BR s) (h:Qb s (EA s a.a6) a=true):IK s a:=by
 unfold Qb at h;rw [Ae]at h;have hv:=B7.1 h.1;obtain⟨y,t,e1,e2,ht,_,_⟩:=TB hg hv;have et:EA s a.a6=t:=by unfold EA;rw [e1,Option.getD_some,e2];rfl
 have h2:=h.2;rw [et]at h2;by_cases h0:a.bd=0
 ·rw [if_pos h0]at h2;exact⟨hv, .inl h0,fun _=>⟨y,t,e1,e2,ht,h2⟩⟩
 ·rw [if_neg h0]at h2;by_cases h1:a.bd=1∨a.bd= -1
  ·exact⟨hv, .inr h1,fun h=>absurd h h0⟩
  ·rw [if_neg h1]at h2;cases h2
structure Lm (s r:Au):Prop where
 bu:BR r
 small:DS r
 name:r.ab=s.ab
 ways:r.ak=s.ak
 at_:r.bp.length=s.bp.length
theorem P9 {s:Au} {a:Dv} (hS:DS s) (hg:BR s) (hA:F9 a.ay) (B9:IK s a): ∃r:Au × Bool,G5 s a=some r∧RE s a=some r∧Lm s r.1:=by
 obtain⟨y,t,e1,e2,ht,Ib,hy1⟩:=TB hg B9.srv;have h1:=hg.1;have h4:=hg.2.1;have w:IntKind.i64.wrap ((s.ak.length:Int)-1)=(s.ak.length:Int)-1:=Bc (by omega) (by omega);unfold G5 RE;rw [W0 hS,zzE hS,Aa,Aa,w];by_cases h0:a.bd=0
 ·obtain⟨y',t',q1,q2,q3,FF⟩:=B9.act h0;rw [e1]at q1;cases q1;rw [e2]at q2;cases q2;have hI:=hg.2.2.1 t ht;have GY:=IS hI;have hc:=Jt GY;have QK:=hS.way t ht;have XB:=yP hA FF;have hR:=hg.2.2.2.2.2.2;obtain⟨ol,oo⟩:=zz3 GY FF;have LL:GL s a.a6=some t:=by
   unfold GL;rw [e1,Aa,e2];rfl
  have hD:SG t s.ao a.ay=some ((Bg s.ao (D7 t a.ay)).1,(Bg s.ao (D7 t a.ay)).2,true):=by
   have dU:Su t a.ay=some true:=by unfold Su;rw [Qd QK,Aa,GY,if_pos rfl,pV (by omega) hA,FF];rfl
   unfold SG;rw [dU,Aa,if_pos rfl,Ql hS.store,Aa,hR,if_neg (by simp),yR QK GY XB,Aa,Yh ol oo hR];rfl
  have EE:=Mg ol oo hR;rw [if_neg (by simp [h0]),if_neg (by simp [h0]),e1,Aa,e2,Aa,hD,LL,Aa,Aa,zIf QK GY XB,Aa,zyq ol oo hR,Aa];refine⟨_,rfl,rfl,⟨⟨hg.1,hg.2.1,hg.2.2.1,hg.2.2.2.1,hg.2.2.2.2.1,hg.2.2.2.2.2.1,EE⟩,⟨hS.name,hS.ways,hS.way,hS.at_, ?_⟩,rfl,rfl,rfl⟩⟩;have hr:=(Eg EE).1;have J3:=hr.len;exact aN (by show(Bg s.ao (D7 t a.ay)).1.length≤2000000;omega) hr.bu
 ·have AZ:a.bd=1∨a.bd= -1:=by rcases B9.step with h|h|h;exact absurd h h0;exact .inl h;exact .inr h
  have w2:IntKind.i64.wrap (y+a.bd)=y+a.bd:=Bc (by omega) (by omega);rw [if_pos (by simpa using h0),if_pos (by simpa using h0)];simp only [e1,Aa,w2,Iq,K2];cases hv:BP (y+a.bd) 0 ((s.ak.length:Int)-1)with
  |false=>exact⟨_,rfl,rfl,⟨hg,hS,rfl,rfl,rfl⟩⟩
  |true=>
   have Dt:=B7.1 hv;refine⟨_,rfl,rfl,⟨⟨hg.1,hg.2.1,hg.2.2.1,hg.2.2.2.1, ?_,fun z hz=> ?_,hg.2.2.2.2.2.2⟩,⟨hS.name,hS.ways,hS.way, ?_,hS.store⟩,rfl,rfl,List.length_set⟩⟩
   ·show BP (((s.bp.set (a.a6).toNat (y+a.bd)).length:Nat):Int) 1 3=true;rw [List.length_set];exact hg.2.2.2.2.1
   ·rcases List.mem_or_eq_of_mem_set hz with hz|rfl
    ·exact hg.2.2.2.2.2.1 z hz
    ·exact Dt
   ·show(s.bp.set (a.a6).toNat (y+a.bd)).length≤2000000;rw [List.length_set];exact hS.at_
def Om:Au:=⟨[], [], [], []⟩
def Fj (l:List Int):Bool:=l.all fun x=>l.all fun y=> !decide (x-y>1)
theorem sU {l:List Int} (hl:l.length≤2000000) (hb: ∀y∈l,0≤y∧y≤3):SA l=some (Fj l):=by
 unfold SA;have Cg: ∀(i:Nat) (hi:i<l.length),AA (fun s:Int=>PK l i l[i] s) 0=some (if(l.all fun y=> !decide (l[i]-y>1))=true then .inl ((i+1:Nat):Int)else .inr (some false)):=by
  intro i hi;have hx:=hb _ (List.getElem_mem hi);rw [Kr (xs:=l) (body:=fun s:Int=>PK l i l[i] s) (fun y=> !decide (l[i]-y>1)) (.inr (some false)) (mE i) (fun j hj=>by
   have hy:=hb _ (List.getElem_mem hj);have w:IntKind.i64.wrap (l[i]-l[j])=l[i]-l[j]:=Bc (by omega) (by omega);show PK l i l[i] j=_;unfold PK;rw [if_pos (by simpa using hj),AN hj,Aa,w,Bl hj (by omega)];cases decide (l[i]-l[j]>1)<;>rfl) (by
   show PK l i l[i] l.length=_;unfold PK;rw [if_neg (by simp)])]
  unfold mE;rw [Bl hi (by omega)];split<;>rfl
 rw [Kr (xs:=l) (body:=fun s:Int=>R2 l s) (fun x=>l.all fun y=> !decide (x-y>1)) false (some true) (fun i hi=>by
  show R2 l i=_;unfold R2;rw [if_pos (by simpa using hi),AN hi,Aa];exact Cg i hi) (by
  show R2 l l.length=_;unfold R2;rw [if_neg (by simp)])]
 unfold Fj;cases(l.all fun x=>l.all fun y=> !decide (x-y>1))<;>rfl
def LZ (a:Int) (l:List Int):Int:=l.foldl (fun m y=>bif decide (y>m)then y else m) a
def LV (a:Int) (l:List Int):Int:=l.foldl (fun m y=>bif decide (y<m)then y else m) a
theorem w5: ∀(l:List Int) (a:Int),LZ a l∈a::l∧ ∀x∈a::l,x≤LZ a l
 | [],a=>by simp [LZ]
 |y::l,a=>by
  obtain⟨h1,h2⟩:=w5 l (bif decide (y>a)then y else a);have e:LZ a (y::l)=LZ (bif decide (y>a)then y else a) l:=rfl;rw [e];have ha:a≤(bif decide (y>a)then y else a)∧y≤(bif decide (y>a)then y else a):=by
   by_cases h:y>a
   ·rw [decide_eq_true h];exact⟨by simp;omega,by simp⟩
   ·rw [decide_eq_false h];exact⟨by simp,by simp;omega⟩
  have hm:=h2 _ (List.mem_cons_self);refine⟨?_,fun x hx=> ?_⟩
  ·rcases Ag.1 h1 with h|h
   ·rw [h];by_cases hc:y>a
    ·rw [decide_eq_true hc];simp
    ·rw [decide_eq_false hc];simp
   ·simp [h]
  ·rcases Ag.1 hx with rfl|hx
   ·omega
   ·rcases Ag.1 hx with rfl|hx
    ·omega
    ·exact h2 x (by simp [hx])
theorem xA: ∀(l:List Int) (a:Int),LV a l∈a::l∧ ∀x∈a::l,LV a l≤x
 | [],a=>by simp [LV]
 |y::l,a=>by
  obtain⟨h1,h2⟩:=xA l (bif decide (y<a)then y else a);have e:LV a (y::l)=LV (bif decide (y<a)then y else a) l:=rfl;rw [e];have ha:(bif decide (y<a)then y else a)≤a∧(bif decide (y<a)then y else a)≤y:=by
   by_cases h:y<a
   ·rw [decide_eq_true h];exact⟨by simp;omega,by simp⟩
   ·rw [decide_eq_false h];exact⟨by simp,by simp;omega⟩
  have hm:=h2 _ (List.mem_cons_self);refine⟨?_,fun x hx=> ?_⟩
  ·rcases Ag.1 h1 with h|h
   ·rw [h];by_cases hc:y<a
    ·rw [decide_eq_true hc];simp
    ·rw [decide_eq_false hc];simp
   ·simp [h]
  ·rcases Ag.1 hx with rfl|hx
   ·omega
   ·rcases Ag.1 hx with rfl|hx
    ·omega
    ·exact h2 x (by simp [hx])
theorem zIR {l:List Int} {a:Int} (hl:l.length≤2000000):YG (a::l)=some (LZ a l):=by
 have key: ∀(n q:Nat) (m:Int),q+n=(a::l).length→AA (fun s:Int × Int=>Pz (a::l) s.1 s.2) (m,(q:Int))=some (LZ m ((a::l).drop q)):=by
  intro n
  induction n with
  |zero=>intro q m hq;rw [List.drop_eq_nil_of_le (by omega)];refine Dw ?_;show Pz (a::l) m q=_;unfold Pz;rw [if_neg (by rw [decide_eq_true_eq];omega)];rfl
  |succ n ih=>
   intro q m hq;have Am:q<(a::l).length:=by omega
   have DI:(a::l).length=l.length+1:=Ao;have e:Pz (a::l) m q=some (.inl ((bif decide ((a::l)[q]>m)then(a::l)[q]else m),((q+1:Nat):Int))):=by unfold Pz;rw [if_pos (decide_eq_true (by omega)),AN Am,Aa,Bl Am (by omega)]
   rw [DM (body:=fun s:Int × Int=>Pz (a::l) s.1 s.2) e,ih (q+1) _ (by omega),List.drop_eq_getElem_cons Am];rfl
 unfold YG;rw [if_neg (by rw [decide_eq_true_eq,Ao];omega),show getI (a::l) 0=some a from rfl,Aa];exact key l.length 1 a (by rw [Ao];omega)
theorem zI6 {l:List Int} {a:Int} (hl:l.length≤2000000):YK (a::l)=some (LV a l):=by
 have key: ∀(n q:Nat) (m:Int),q+n=(a::l).length→AA (fun s:Int × Int=>Py (a::l) s.1 s.2) (m,(q:Int))=some (LV m ((a::l).drop q)):=by
  intro n
  induction n with
  |zero=>intro q m hq;rw [List.drop_eq_nil_of_le (by omega)];refine Dw ?_;show Py (a::l) m q=_;unfold Py;rw [if_neg (by rw [decide_eq_true_eq];omega)];rfl
  |succ n ih=>
   intro q m hq;have Am:q<(a::l).length:=by omega
   have DI:(a::l).length=l.length+1:=Ao;have e:Py (a::l) m q=some (.inl ((bif decide ((a::l)[q]<m)then(a::l)[q]else m),((q+1:Nat):Int))):=by unfold Py;rw [if_pos (decide_eq_true (by omega)),AN Am,Aa,Bl Am (by omega)]
   rw [DM (body:=fun s:Int × Int=>Py (a::l) s.1 s.2) e,ih (q+1) _ (by omega),List.drop_eq_getElem_cons Am];rfl
 unfold YK;rw [if_neg (by rw [decide_eq_true_eq,Ao];omega),show getI (a::l) 0=some a from rfl,Aa];exact key l.length 1 a (by rw [Ao];omega)
theorem zzJ {s:Au} (hl:s.bp.length≤2000000) (h1:1≤s.bp.length) (hb: ∀y∈s.bp,0≤y∧y≤3):Ry s=some (Fj s.bp):=by
 unfold Ry;generalize s.bp=l at hl h1 hb;cases l with
 |nil=>simp at h1
 |cons a l=>
  rw [Ao]at hl;rw [zIR (by omega),zI6 (by omega),Aa,Aa];obtain⟨x1,x2⟩:=w5 l a;obtain⟨n1,n2⟩:=xA l a;have b1:=hb _ x1;have b2:=hb _ n1;have w:IntKind.i64.wrap (LZ a l-LV a l)=LZ a l-LV a l:=Bc (by omega) (by omega);rw [w];congr 1;unfold Fj;rw [Bool.eq_iff_iff];simp only [decide_eq_true_eq,AJ,Bool.not_eq_true',decide_eq_false_iff_not];constructor
  ·intro h x hx y hy;have:=x2 x hx;have:=n2 y hy;omega
  ·intro h;have:=h _ x1 _ n1;omega
theorem zEK {s:Au} {a:Dv} (hS:DS s) (hg:BR s) (hA:F9 a.ay) (B9:IK s a): ∃r,P0 s a=some r∧Zi s a=some r:=by
 obtain⟨r,k1,k2,hn⟩:=P9 hS hg hA B9;unfold P0 Zi;rw [k1,k2,Aa,Aa];by_cases h:r.2=true
 ·rw [if_pos h,if_pos h];have h3:=B7.1 hn.bu.2.2.2.2.1;have hw:=hn.bu.2.1;have hb: ∀y∈r.1.bp,0≤y∧y≤3:=fun y hy=>by
   have:=hn.bu.2.2.2.2.2.1 y hy;omega
  have hl:=hn.small.at_;rw [sU hl hb,zzJ hl (by omega) hb,Aa,Aa];obtain⟨q,q1,q2⟩:=zCl hn.small hn.bu;by_cases hc:Fj r.1.bp=true
  ·rw [if_pos hc,if_pos hc,q1,q2];exact⟨q,rfl,rfl⟩
  ·rw [if_neg hc,if_neg hc];exact⟨_,rfl,rfl⟩
 ·rw [if_neg h,if_neg h];exact⟨_,rfl,rfl⟩
theorem Fg {t:Ad} {n:Af} (h:B6 t n=true):EK t n (Du t n)∧BD t n=(Du t n).aq∧Du t n∈t.ah∧0≤BD t n∧BD t n≤3∧A0 t=true:=by obtain⟨x,hx,e,h0,h3,hg⟩:=Kt h;rw [yL hx];exact⟨hx,e,sH hx.at_,by omega,by omega,hg⟩
theorem rO {n:Af}: ∀l:List At,BH (fun x:At=>x.ab==n) l=BH (· ==n) (l.map (·.ab))
 | []=>rfl
 |x::l=>by rw [List.map_cons,NT,NT,rO l]
theorem zGA (t:Ad) (n:Af) (k c:Int):Ci (C7 t k c) n=Ci t n:=by unfold Ci;rw [rO,rO,Wj]
theorem xN {t:Ad} {n:Af} {c:Int} (h:B6 t n=true):Du (C7 t (Ci t n) c) n={Du t n with aq:=c}:=by
 have hx:=(Fg h).1;have hl:=(N4 hx.at_).2.2;have h0:=(N4 hx.at_).1;have hk:(Ci t n).toNat<t.ah.length:=by have:BH (fun y:At=>y.ab==n) t.ah=Ci t n:=rfl;rw [this]at hl h0;omega
 unfold Du;rw [zGA];unfold C7;dsimp only;rw [List.getElem?_set_self hk];rfl
theorem zHc {t:Ad} {n:Af} {c:Int} (h:B6 t n=true):BD (C7 t (Ci t n) c) n=c:=by have:BD (C7 t (Ci t n) c) n=(Du (C7 t (Ci t n) c) n).aq:=rfl;rw [this,xN h]
theorem zHu {t:Ad} {n:Af} {b:Int} (h:B6 t n=true):(way t (Ci t n) (BD t n) b).map (fun w=>BD w n)=BD t n::Fk 3 (BD t n) b:=by
 unfold way;rw [List.map_cons,List.map_map];congr 1
 conv=>rhs;rw [←List.map_id (Fk 3 (BD t n) b)]
 exact List.map_congr_left fun c _=>zHc h
def yX (a b i j:Nat):Bool:=match((a:Int)::Fk 3 a b)[i]?,((a:Int)::Fk 3 a b)[j]? with
 |some x,some y=>decide (x≤y+1)
 |_,_=>true
theorem zFa: ∀a b i j:Fin 4,i.val≤j.val+1→j.val≤i.val+1→yX a.val b.val i.val j.val=true:=by decide
theorem zBn {a b:Int} (QL:0≤a) (TZ:a≤3) (H2:0≤b) (Gs:b≤3) {i j:Nat} (hi:i<4) (hj:j<4) (h1:i≤j+1) (h2:j≤i+1) {x y:Int}
  (hx:(a::Fk 3 a b)[i]?=some x) (hy:(a::Fk 3 a b)[j]?=some y):x≤y+1:=by
 have h:=zFa ⟨a.toNat,by omega⟩ ⟨b.toNat,by omega⟩ ⟨i,hi⟩ ⟨j,hj⟩ h1 h2;unfold yX at h;dsimp only at h;rw [Int.toNat_of_nonneg QL,Int.toNat_of_nonneg H2,hx,hy]at h;simpa using h
theorem zIY {s:Au} (hg:BR s) {y:Int} (h0:0≤y) (h1:y≤(s.ak.length:Int)-1): ∃t,getI s.ak y=some t∧t∈s.ak∧y.toNat<4∧
  (BD (AM s) s.ab::Fk 3 (BD (AM s) s.ab) (BD (Ip s) s.ab))[y.toNat]?=some (BD t s.ab):=by
 obtain⟨t,e,ht,e2⟩:=IX (xs:=s.ak) h0 (by omega);have hI:=hg.2.2.1 _ (Kp (s:=s) hg.1).2;have h4:=hg.2.1;refine⟨t,e,ht,by omega, ?_⟩;rw [←zHu hI,List.getElem?_map];have hw:way (AM s) (Ci (AM s) s.ab) (BD (AM s) s.ab) (BD (Ip s) s.ab)=s.ak:=hg.2.2.2.1.symm;rw [hw,e2];rfl
theorem qF {s:Au} (hg:BR s) {u:Int} (h:u∈CS s): ∃y t,y∈s.bp∧getI s.ak y=some t∧t∈s.ak∧u=BD t s.ab∧y.toNat<4∧0≤y∧
  (BD (AM s) s.ab::Fk 3 (BD (AM s) s.ab) (BD (Ip s) s.ab))[y.toNat]?=some u:=by
 obtain⟨y,hy,rfl⟩:=List.mem_map.1 h;have hb:=hg.2.2.2.2.2.1 y hy;obtain⟨t,e,ht,h4,e2⟩:=zIY hg hb.1 hb.2;refine⟨y,t,hy,e,ht, ?_,h4,hb.1, ?_⟩<;>rw [e]
 ·rfl
 ·exact e2
theorem zyr {s:Au} (hg:BR s) (hc:Fj s.bp=true): ∀p∈CS s,∀q∈CS s,p≤q+1:=by intro p hp q hq;obtain⟨y,_,hy,_,_,_,y4,y0,e1⟩:=qF hg hp;obtain⟨z,_,hz,_,_,_,z4,z0,e2⟩:=qF hg hq;unfold Fj at hc;have c1:=AJ.1 (AJ.1 hc y hy) z hz;have c2:=AJ.1 (AJ.1 hc z hz) y hy;simp only [Bool.not_eq_true',decide_eq_false_iff_not]at c1 c2;have f:=Fg (hg.2.2.1 _ (Kp (s:=s) hg.1).2);have l:=Fg (hg.2.2.1 _ (rU (s:=s) hg.1 hg.2.1).2);exact zBn f.2.2.2.1 f.2.2.2.2.1 l.2.2.2.1 l.2.2.2.2.1 y4 z4 (by omega) (by omega) e1 e2
theorem zDq {s:Au} (hg:BR s): ∀p∈CS s,0≤p∧p≤3:=by intro p hp;obtain⟨_,t,_,_,ht,rfl,_⟩:=qF hg hp;have f:=Fg (hg.2.2.1 t ht);exact⟨f.2.2.2.1,f.2.2.2.2.1⟩
theorem zHo {st:List Int} (h: ∀p∈st,0≤p∧p≤3) (hn: ∀p∈st,∀q∈st,p≤q+1) {u:Int} (hu:u∈st):Hh st=0∧u≤1∨Hh st=1∧1≤u∨Hh st=2∧2≤u:=by
 have h1:=h u hu;unfold Hh;by_cases k3:st.contains 3=true
 ·rw [if_pos k3];have:=hn 3 (by simpa using k3) u hu;omega
 ·rw [if_neg k3];by_cases k0:st.contains 0=true
  ·rw [if_pos k0];have:=hn u hu 0 (by simpa using k0);omega
  ·rw [if_neg k0];have:u≠0:=fun e=>k0 (by rw [←e];simpa using hu);omega
theorem zvs {t t':Ad} {n:Af} {x x':At} {lv:Int} {st:List Ac} (h1:t.ab=t'.ab) (h2:t.ar=t'.ar) (h3:x.bj=x'.bj):holds t n x lv st=holds t' n x' lv st:=by cases t;cases t';cases x;cases x';dsimp only at h1 h2 h3;subst h1;subst h2;subst h3;rfl
theorem qN {s:Au} (hg:BR s) {t:Ad} (ht:t∈s.ak):t.ab=(AM s).ab∧t.ar=(AM s).ar∧(Du t s.ab).bj=(Du (AM s) s.ab).bj:=by
 have hI:=hg.2.2.1 _ (Kp (s:=s) hg.1).2;rw [hg.2.2.2.1]at ht;rcases Ag.1 ht with rfl|ht
 ·exact⟨rfl,rfl,rfl⟩
 ·obtain⟨c,_,rfl⟩:=List.mem_map.1 ht;refine⟨rfl,rfl, ?_⟩;rw [xN hI]
theorem wA {s:Au} {a:Dv} (hS:DS s) (hg:BR s) (hA:F9 a.ay) (B9:IK s a) (h0:a.bd=0): ∃y t,getI s.bp a.a6=some y∧getI s.ak y=some t∧t∈s.ak∧HO t a.ay=true∧
  G5 s a=some (⟨s.ab,s.ak,s.bp,(Bg s.ao (D7 t a.ay)).1⟩,(Bg s.ao (D7 t a.ay)).2):=by
 obtain⟨y,t,e1,e2,ht,FF⟩:=B9.act h0;have hI:=hg.2.2.1 t ht;have GY:=IS hI;have hc:=Jt GY;have QK:=hS.way t ht;have XB:=yP hA FF;have hR:=hg.2.2.2.2.2.2;obtain⟨ol,oo⟩:=zz3 GY FF;refine⟨y,t,e1,e2,ht,FF, ?_⟩;have hD:SG t s.ao a.ay=some ((Bg s.ao (D7 t a.ay)).1,(Bg s.ao (D7 t a.ay)).2,true):=by
  have dU:Su t a.ay=some true:=by unfold Su;rw [Qd QK,Aa,GY,if_pos rfl,pV (by omega) hA,FF];rfl
  unfold SG;rw [dU,Aa,if_pos rfl,Ql hS.store,Aa,hR,if_neg (by simp),yR QK GY XB,Aa,Yh ol oo hR];rfl
 unfold G5;rw [W0 hS,Aa,if_neg (by simp [h0]),e1,Aa,e2,Aa,hD];rfl
theorem zI4 {s:Au} {a:Dv} (hS:DS s) (hg:BR s) (hA:F9 a.ay) (B9:IK s a) {r:Au × Bool} (hr:G5 s a=some r):P0 s a=some (r.2&&(Fj r.1.bp&&He r.1)):=by
 obtain⟨r',k1,k2,hn⟩:=P9 hS hg hA B9;rw [hr]at k1;cases k1;unfold P0;rw [hr,Aa];by_cases h:r.2=true
 ·rw [if_pos h];have hw:=hn.bu.2.1;have hb: ∀y∈r.1.bp,0≤y∧y≤3:=fun y hy=>by
   have:=hn.bu.2.2.2.2.2.1 y hy;omega
  rw [sU hn.small.at_ hb,Aa,(cU hn.small hn.bu).1,h];cases Fj r.1.bp<;>rfl
 ·rw [if_neg h];rw [Bool.not_eq_true]at h;rw [h];rfl
theorem zvc {s:Au} {a:Dv} (hS:DS s) (hg:BR s) (hA:F9 a.ay) (B9:IK s a) {r:Au × Bool} (hr:G5 s a=some r) (hh:He s=true) (hc:Fj s.bp=true)
  (hm:a.bd≠0→Fj r.1.bp=true∧He r.1=true):Fj r.1.bp=true∧He r.1=true:=by
 by_cases h0:a.bd=0
 ·obtain⟨y,t,e1,e2,ht,FF,e⟩:=wA hS hg hA B9 h0;rw [hr]at e;cases e;refine⟨hc, ?_⟩;have hI:=hg.2.2.1 t ht;have f:=Fg hI;have hu:BD t s.ab∈CS s:=by
   refine List.mem_map.2 ⟨y,sH e1, ?_⟩;rw [e2];rfl
  have hk:=zHo (zDq hg) (zyr hg hc) hu;rw [f.2.1]at hk;have A:=xF f.2.2.2.2.2 f.2.2.1 f.1.name FF;obtain⟨w1,w2,w3⟩:=qN hg ht;unfold He at hh;rw [←zvs w1 w2 w3]at hh;have hd:=zBB A hg.2.2.2.2.2.2 hk hh;rw [zvs w1 w2 w3]at hd;exact hd
 ·exact hm h0
def On (t:Ad) (st:List Ac):List Ac:=st.filter (Co t)
theorem NP {t:Ad} {st:List Ac} {w:Ac}:w∈On t st↔w∈st∧Co t w=true:=List.mem_filter
theorem Oa (t:Ad) (st:List Ac):rows t st=(On t st).map B5:=rfl
theorem P4 {t:Ad} {st:List Ac} (h:Da st):Da (On t st):=Ei.filter h _
theorem zw2 {l:List Ac} {w:Ac} (h: ∀y∈l,y.af≠w.af):(Bj wk w l).length=l.length+1:=by
 induction l with
 |nil=>rfl
 |cons y l ih=>
  rw [Bj];split
  ·rfl
  ·split
   ·rename_i e;exact absurd e.symm (h y (by simp))
   ·rw [Ao,ih fun z hz=>h z (by simp [hz]),Ao]
theorem zxO {l:List Ac} {w:Ac} (hl:Da l) (h: ∃y∈l,y.af=w.af):(Bj wk w l).length=l.length:=by
 induction l with
 |nil=>obtain⟨y,hy,_⟩:=h;simp at hy
 |cons y l ih=>
  obtain⟨r1,r2⟩:=SY hl;obtain⟨z,hz,e⟩:=h;rw [Bj];split
  ·rename_i hb;exfalso;rcases Ag.1 hz with rfl|hz
   ·exact FA hb e.symm
   ·exact FA (F8 hb (r1 z hz)) e.symm
  ·split
   ·rfl
   ·rename_i A2;rw [Ao,Ao,ih r2];rcases Ag.1 hz with rfl|hz
    ·exact absurd e.symm A2
    ·exact⟨z,hz,e⟩
theorem zyx {l:List Ac} {k:Af} (hl:Da l) (h: ∃y∈l,y.af=k):(l.filter fun w=>w.af !=k).length+1=l.length:=by
 induction l with
 |nil=>obtain⟨y,hy,_⟩:=h;simp at hy
 |cons y l ih=>
  obtain⟨r1,r2⟩:=SY hl;rw [List.filter_cons];by_cases hy:y.af=k
  ·rw [if_neg (by simp [hy]),List.filter_eq_self.2 fun z hz=>by
    have:=FA (r1 z hz);rw [hy]at this;simpa using fun e=>this e.symm]
   rfl
  ·rw [if_pos (by simpa using hy),Ao,Ao];obtain⟨z,hz,e⟩:=h;rcases Ag.1 hz with rfl|hz
   ·exact absurd e hy
   ·have:=ih r2 ⟨z,hz,e⟩;omega
structure U9 (t:Ad) (a:Bf) (st st':List Ac):Prop where
 act:Fm t a
 o9:Qq t a st st'
 cd:Da st
 oa:Da st'
 gone: ∀w∈st,w.bh=false
 ahead:Yj t a st
section
variable {t:Ad} {a:Bf} {st st':List Ac} (H:U9 t a st st')
include H
theorem U9.jb (k:a.aj≠2):On t st'=Bj wk (AQ t a.bw) (On t st):=by
 refine Ei.ext (key:=wk) (P4 H.oa) (Wr (P4 H.cd)) fun y=> ?_;rw [Tb (P4 H.cd),NP,NP,H.o9 y];have A1:=H.act.jv k;constructor
 ·rintro⟨⟨hg,h|⟨h1,h2⟩⟩,h3⟩
  ·exact .inl (H.act.ea h h3).1
  ·exact .inr ⟨⟨h1,h3⟩,fun e=>h2 _ A1 e.symm⟩
 ·rintro(rfl|⟨⟨h1,h2⟩,h3⟩)
  ·exact⟨⟨rfl, .inl A1⟩,jR H.act.tab (H.act.new k)⟩
  ·refine⟨⟨H.gone y h1, .inr ⟨h1,fun w hw e=> ?_⟩⟩,h2⟩;have Ph:=H.act.gn hw h2 e;apply h3;rw [←e];by_cases k1:a.aj=1
   ·exact H.act.gy k1 Ph
   ·have k3:a.aj=3:=by rcases H.act.kind with h|h|h;exact absurd h k1;exact absurd h k;exact h
    show w.af=(AQ t a.bw).af;rw [H.act.gf k1 Ph,IT,IT,H.act.same k3]
theorem U9.j7 (k:a.aj=2):On t st'=(On t st).filter fun w=>w.af !=(AQ t a.bq).af:=by
 refine Ei.ext (key:=wk) (P4 H.oa) (Ei.filter (P4 H.cd) _) fun y=> ?_;rw [List.mem_filter,NP,NP,H.o9 y];constructor
 ·rintro⟨⟨hg,h|⟨h1,h2⟩⟩,h3⟩
  ·exact absurd k (H.act.ea h h3).2
  ·obtain⟨u,u1,u2⟩:=H.act.fc (show a.aj≠1 by omega);refine⟨⟨h1,h3⟩, ?_⟩;have:=h2 u u1;rw [u2]at this;simpa using fun e=>this e.symm
 ·rintro⟨⟨h1,h2⟩,h3⟩;refine⟨⟨H.gone y h1, .inr ⟨h1,fun w hw e=> ?_⟩⟩,h2⟩;have Ph:=H.act.gn hw h2 e;have:=H.act.gf (show a.aj≠1 by omega) Ph;rw [e]at this;simp [this]at h3
theorem U9.fresh {r:AD} (h1:r∈rows t st') (h2:r∉rows t st):r=a.bw∧a.aj≠2:=by
 rw [Oa,List.mem_map]at h1;obtain⟨q,hq,rfl⟩:=h1;obtain⟨Ge,EG⟩:=NP.1 hq;obtain⟨_,h|⟨h3,_⟩⟩:=(H.o9 q).1 Ge
 ·obtain⟨e,k⟩:=H.act.ea h EG;exact⟨by rw [e,Tf H.act.tab (H.act.new k)],k⟩
 ·exact absurd (by rw [Oa,List.mem_map];exact⟨q,NP.2 ⟨h3,EG⟩,rfl⟩) h2
theorem U9.rows_len:(a.aj=1→(rows t st').length=(rows t st).length+1)∧(a.aj=2→(rows t st').length+1=(rows t st).length)∧(a.aj=3→(rows t st').length=(rows t st).length):=by
 have hold:a.aj≠1→AQ t a.bq∈On t st:=fun k=>NP.2 ⟨H.ahead.2 k,jR H.act.tab (H.act.old k)⟩;refine⟨fun k=> ?_,fun k=> ?_,fun k=> ?_⟩
 ·rw [Oa,Oa,List.length_map,List.length_map,H.jb (by omega),zw2 fun y hy=>H.ahead.1 k y (NP.1 hy).1]
 ·rw [Oa,Oa,List.length_map,List.length_map,H.j7 k];exact zyx (P4 H.cd) ⟨_,hold (by omega),rfl⟩
 ·rw [Oa,Oa,List.length_map,List.length_map,H.jb (by omega)];refine zxO (P4 H.cd) ⟨_,hold (by omega), ?_⟩;rw [IT,IT,H.act.same k]
end
theorem xS (t:Ad) (k c:Int) (j:Nat): ∃s,((C7 t k c).ah[j]?).getD ⟨[],0,0⟩={((t.ah[j]?).getD ⟨[],0,0⟩)with aq:=s}∧(s=((t.ah[j]?).getD ⟨[],0,0⟩).aq∨s=c):=by
 unfold C7;dsimp only;rw [List.getElem?_set];split
 ·rename_i h;subst h;split
  ·exact⟨c,rfl, .inr rfl⟩
  ·rename_i h2;rw [List.getElem?_eq_none (by omega)];exact⟨0,rfl, .inl rfl⟩
 ·exact⟨_,rfl, .inl rfl⟩
theorem zEp {t:Ad} {k c:Int} (h:A0 t=true) (hc:BP c 0 3=true):A0 (C7 t k c)=true:=by
 have hl:(C7 t k c).ah.length=t.ah.length:=by unfold C7;simp
 unfold A0 at h ⊢;simp only [Ae]at h ⊢;obtain⟨⟨⟨h1,h2⟩,h3⟩,h4⟩:=h;refine⟨⟨⟨h1,h2⟩,by rw [hl];exact h3⟩, ?_⟩;rw [hl];rw [AJ]at h4 ⊢;intro i hi;have hq:=h4 i hi;unfold HT at hq ⊢;obtain⟨s,e,hs⟩:=xS t k c i;obtain⟨s',e',_⟩:=xS t k c (i-1);dsimp only at hq ⊢;rw [e,e'];simp only [Ae]at hq ⊢;refine⟨⟨⟨hq.1.1.1,hq.1.1.2⟩, ?_⟩,hq.2⟩;rcases hs with rfl|rfl
 ·exact hq.1.2
 ·exact hc
theorem wO {t:Ad} {n:Af} {c:Int} (h:B6 t n=true) (hc:BP c 0 3=true):B6 (C7 t (Ci t n) c) n=true:=by unfold B6 at h ⊢;rw [Ae]at h ⊢;exact⟨zEp h.1 hc,by rw [zyh (n:=n) (Wj t (Ci t n) c)];exact h.2⟩
theorem zDc: ∀(n:Nat) {c:Ap} {p:Ad × Ap},Jw n c=some p→p.1.ah≠ []→NA c=Vn p.2.aw p.2.bz p.2.az p.1.ab p.1.ar p.1.ah:=by
 have stop: ∀{p:Ad × Ap},p.1.ah≠ []→AA (fun s:List Int × Int × Int × Ab × List (Ab) × List At=>Ro s.1 s.2.1 s.2.2.1 s.2.2.2.1 s.2.2.2.2.1 s.2.2.2.2.2) (p.2.aw,p.2.bz,p.2.az,p.1.ab,p.1.ar,p.1.ah)=Vn p.2.aw p.2.bz p.2.az p.1.ab p.1.ar p.1.ah:=by intro p hp;refine Dw ?_;show Ro p.2.aw p.2.bz p.2.az p.1.ab p.1.ar p.1.ah=_;unfold Ro;have:0<p.1.ah.length:=List.length_pos_iff.2 hp;rw [if_neg (by simp;omega)]
 intro n
 induction n with
 |zero=>intro c p h A2;unfold NA;rw [show Jl c=some p from h,Aa];exact stop A2
 |succ n ih=>
  intro c p h A2;unfold Jw at h;obtain⟨q,hq,h⟩:=It h;split at h
  ·rename_i h0;have he:q.1.ah= []:=List.eq_nil_of_length_eq_zero h0;obtain⟨r,hr⟩: ∃r,Jl q.2=some r:=by
    cases n with
    |zero=>exact⟨p,h⟩
    |succ n=>unfold Jw at h;obtain⟨r,hr,_⟩:=It h;exact⟨r,hr⟩
   rw [←ih h A2];unfold NA;rw [hq,Aa,hr,Aa];refine DM ?_;show Ro q.2.aw q.2.bz q.2.az q.1.ab q.1.ar q.1.ah=_;unfold Ro;rw [if_pos (by rw [he];rfl),show(⟨q.2.aw,q.2.bz,q.2.az⟩:Ap)=q.2 from rfl,hr,Aa]
  ·cases h;unfold NA;rw [hq,Aa];exact stop A2
structure Hl (n:Nat) (s:Au):Prop where
 name:s.ab.length≤10
 ways:s.ak.length≤4+n
 least:n=0→1≤s.ak.length
 way: ∀t∈s.ak,A0 t=true
 at_:s.bp.length≤3+n
 pe:s.ao.length≤80+n
 store:MG s.ao
theorem Hl.small {n:Nat} {s:Au} (h:Hl n s) (hn:n≤10):DS s:=⟨by have:=h.name;omega,by have:=h.ways;omega,fun t ht=>GM (h.way t ht),by have:=h.at_;omega,h.store.small⟩
theorem zB9 {a b:Int} (QL:0≤a) (TZ:a≤3) (H2:0≤b) (Gs:b≤3):(a=b∧Fk 3 a b= [])∨ ∃l,Fk 3 a b=l++ [b]:=by
 have h1:a=0∨a=1∨a=2∨a=3:=by omega
 have h2:b=0∨b=1∨b=2∨b=3:=by omega
 rcases h1 with rfl|rfl|rfl|rfl<;>rcases h2 with rfl|rfl|rfl|rfl<;>first|exact .inl ⟨rfl,rfl⟩|exact .inr ⟨[],rfl⟩|exact .inr ⟨[_],rfl⟩|exact .inr ⟨[_,_],rfl⟩
theorem zEj {t:Ad} {n:Af} {b:Int} {ats:List Int} {l:List Ac} (h:B6 t n=true) (H2:0≤b) (Gs:b≤3):way t (Ci t n) (BD t n) b=D8 ⟨n,way t (Ci t n) (BD t n) b,ats,l⟩:=by
 have f:=Fg h;have key:BD (Ip ⟨n,way t (Ci t n) (BD t n) b,ats,l⟩) n=b:=by
  unfold Ip way;rcases zB9 f.2.2.2.1 f.2.2.2.2.1 H2 Gs with⟨e1,e2⟩|⟨k,e2⟩
  ·rw [e2];exact e1
  ·rw [e2];have:((t::(k++ [b]).map (C7 t (Ci t n)))[(t::(k++ [b]).map (C7 t (Ci t n))).length-1]?).getD Ng=C7 t (Ci t n) b:=by
    simp
   rw [this];exact zDD h
 unfold D8;rw [key];rfl
theorem zz0 {t:Ad} {n:Af} {b:Int} (h:B6 t n=true) (H2:0≤b) (Gs:b≤3): ∀w∈way t (Ci t n) (BD t n) b,B6 w n=true:=by
 intro w hw;have f:=Fg h;rcases Ag.1 hw with rfl|hw
 ·exact h
 ·obtain⟨c,hc,rfl⟩:=List.mem_map.1 hw;have:=sF 3 f.2.2.2.1 f.2.2.2.2.1 H2 Gs c hc;exact wO h (B7.2 this)
theorem zy2 {t:Ad} {n:Af} {stage srv:Int} {l:List Ac} (h:B6 t n=true) (hn:n.length≤10) (QZ:0≤stage) (Fu:stage≤3) (h1:1≤srv) (h2:srv≤3) (hl:Ld l):
  Zo t n stage srv l=some (if BZ l=true then(⟨n,way t (Ci t n) (BD t n) stage,List.replicate srv.toNat 0,l⟩,true)else(⟨[], [], [], []⟩,false)):=by
 have hg:=IS h;have hS:=GM hg;have f:=Fg h;have hk:BH (fun x:At=>x.ab==n) t.ah≥0:=by unfold B6 at h;rw [Ae,decide_eq_true_eq]at h;exact h.2
 have Gq:ZK t n stage=some true:=by unfold ZK;rw [Qd hS,Aa,if_pos hg,Jx hS,Aa,if_pos (decide_eq_true hk),Iq,Aa,B7.2 ⟨QZ,Fu⟩]
 unfold Zo;rw [Gq,Aa,if_pos rfl,Iq,Aa,if_pos (B7.2 ⟨h1,h2⟩),Ql hl,Aa];by_cases hr:BZ l=true
 ·have hw:=zz0 h QZ Fu;have hlen:(way t (Ci t n) (BD t n) stage).length≤4:=by
   unfold way;have:=rB 3 (BD t n) stage;rw [Ao,List.length_map];omega
  rw [if_neg (by simp [hr]),if_pos hr,zA hS f.1 (by rw [←f.2.1];exact f.2.2.2.1) (by rw [←f.2.1];exact f.2.2.2.2.1) QZ Fu,Aa,AT (by omega)];have e:way t (BH (fun y:At=>y.ab==n) t.ah) (Du t n).aq stage=way t (Ci t n) (BD t n) stage:=by rw [f.2.1];rfl
  rw [e,W0 (s:=⟨n,way t (Ci t n) (BD t n) stage,List.replicate srv.toNat 0,l⟩) ⟨by dsimp only;omega,by dsimp only;omega,fun t ht=>GM (IS (hw t ht)),by dsimp only;rw [List.length_replicate];omega,hl⟩];rfl
 ·rw [if_pos (by simpa using hr),if_neg hr]
structure TK (t:Ad) (n:Af) (rs:List Ac) (v:Au):Prop where
 name:v.ab.length≤10
 ways:v.ak.length≤4
 way: ∀w∈v.ak,B6 w v.ab=true
 at_:v.bp.length≤3
 some_:1≤v.ak.length
 ph:v.ak=D8 v
 pq:1≤v.bp.length
 store:De 5 v.ao
theorem TK.bu {t:Ad} {n:Af} {rs:List Ac} {v:Au} (hI:TK t n rs v) {ats:List Int} (OA:ats.length=v.bp.length) (hb: ∀z∈ats,0≤z∧z≤(v.ak.length:Int)-1) {l:List Ac} (hl:De 24 l):BR ⟨v.ab,v.ak,ats,l⟩:=by
 have h1:=hI.at_;have h2:=hI.pq;have h3:=hl.len;refine⟨hI.some_,hI.ways,hI.way,hI.ph,B7.2 ⟨?_, ?_⟩,hb, ?_⟩
 ·dsimp only;omega
 ·dsimp only;omega
 ·dsimp only;rw [aX hl.cd hl.bu hl.live];exact decide_eq_true (by omega)
theorem zxc [Inhabited Ce] {t:Ad} {n:Af} {rs:List Ac} {v11:List Ac × Ap} {v:Au × Bool} {ats:List Int} {c:Ap} {k:Int} {l:List Ac} (hI:TK t n rs v.1) (Eo:De 20 v11.1) (OA:ats.length=v.1.bp.length) (hb: ∀z∈ats,0≤z∧z≤(v.1.ak.length:Int)-1) (hl:De 24 l) (h:A4 c k) (hk:k≤4611686018427300000):
  Bi (lI v11 v ats c.aw c.bz c.az l) fun p=>(Hl 0 p.1∧BR p.1)∧A4 p.2 (k+10):=by
 unfold lI;have hw:=hI.ways;have ha:=hI.at_;refine(Hb 7 (c:=⟨c.aw,c.bz,c.az⟩) h (by omega)).bind fun u hu=> .ite (fun _=> .ret ⟨⟨⟨hI.name,by dsimp only;omega,fun _=>hI.some_,fun t ht=>IS (hI.way t ht),by dsimp only;omega,by have:=Eo.len;dsimp only;omega,Eo.mc (by omega)⟩,hI.bu OA hb (Eo.mono (by omega))⟩,hu.up (by omega)⟩) fun _=> .ret ⟨⟨⟨hI.name,by dsimp only;omega,fun _=>hI.some_,fun t ht=>IS (hI.way t ht),by dsimp only;omega,by have:=hl.len;dsimp only;omega,hl.mc (by omega)⟩,hI.bu OA hb hl⟩,hu.up (by omega)⟩
theorem zx2 [Inhabited Ce] {t:Ad} {y:At} {v11:List Ac × Ap} {rs:List Ac} {v:Au × Bool} {ats:List Int} {c:Ap} {k:Int} (ht:B6 t y.ab=true) (DK:De 5 rs) (hI:TK t y.ab rs v.1) (Eo:De 20 v11.1) (OA:ats.length=v.1.bp.length) (hb: ∀z∈ats,0≤z∧z≤(v.1.ak.length:Int)-1) (h:A4 c k) (hk:k≤4611686018427200000):
  Bi (lG y t v11 rs v c.aw c.bz c.az ats) fun p=>(Hl 0 p.1∧BR p.1)∧A4 p.2 (k+200):=by
 have hg:=IS ht;have hS:=GM hg;have f:=Fg ht;have hn:y.ab.length≤10:=by have:=(L9 (show CG y.ab 1=true by rw [←f.1.name];exact(Ey hg f.2.2.1).1)).1;omega
 have hlen:=DK.len;have hatl:=hI.at_;have Ee:=hI.name;unfold lG;have AZ: ∀z∈ats,∃tb x,getI v.1.ak z=some tb∧tb∈v.1.ak∧EK tb v.1.ab x∧BD tb v.1.ab=x.aq:=fun z hz=>by obtain⟨tb,q1,q2,_⟩:=IX (hb z hz).1 (by have:=(hb z hz).2;omega:z<v.1.ak.length);obtain⟨x,q3,q4,_⟩:=Kt (hI.way tb q2);exact⟨tb,x,q1,q2,q3,q4⟩
 have O3:(ats.map fun z=>BD ((getI v.1.ak z).getD Ng) v.1.ab).length=ats.length:=by simp
 have n1:=xG (s:=⟨v.1.ab,v.1.ak,ats,v.1.ao⟩) (st:=ats.map fun z=>BD ((getI v.1.ak z).getD Ng) v.1.ab) O3 (by rw [O3];omega) fun i hi=>by
  have EF:i<ats.length:=by omega
  obtain⟨tb,x,q1,q2,q3,q4⟩:=AZ _ (List.getElem_mem EF);refine⟨ats[i],tb,_,x,AN EF,q1,Jx (GM (IS (hI.way _ q2))),q3.at_, ?_⟩;simp only [List.getElem_map,q1,Option.getD_some,q4]
 rw [n1,Aa,zxv hS (by omega) f.1 (by omega) (fun w hw=>Ko (DK.bu w hw)),Aa];have Na:=qB t y.ab (Du t y.ab) rs;have u4: ∀z∈wanted t y.ab (Du t y.ab) rs,CV ⟨z, [],false⟩=true:=fun z hz=>by obtain⟨q,hq,hr,rfl⟩:=P5.1 hz;refine WJ (Wl hg ?_ (Fw hr).1) (by decide);rw [←f.1.name];exact(Ey hg f.2.2.1).1
 generalize wanted t y.ab (Du t y.ab) rs=W at Na u4;generalize Hh _=nd;refine Mc (fun m s=> ∃i:Nat,s.1=(i:Int)∧i+m=W.length∧De (5+i) s.2.2.2.2∧A4 ⟨s.2.1,s.2.2.1,s.2.2.2.1⟩ (k+2*i)) (fun m s hJ=> ?_) (n:=W.length) (by exact⟨0,rfl,by omega,hI.store,by simpa using h⟩);obtain⟨i,e1,e2,hT,ho⟩:=hJ;obtain⟨s1,a,b,e,l⟩:=s;dsimp only at e1 hT ho ⊢;subst e1;have DI:=hT.len;unfold zg4;refine .ite (fun Am=> ?_) fun ET=> ?_
 ·simp only [decide_eq_true_eq]at Am;have hi:i<W.length:=by omega
  have w1:IntKind.i64.wrap ((i:Int)+1)=((i+1:Nat):Int):=by rw [Bc (by omega) (by omega)];omega
  have FY:=Tk hT (u4 _ (List.getElem_mem hi)) rfl;have Ji:=Ml (l:=l) (w:=⟨W[i], [],false⟩) (by omega) hT.cd;rw [AN hi,Aa];refine .ite (fun _=> .ite (fun _=> ?_) fun hf=>by cases hf) fun _=> .ite (fun _=> ?_) fun _=> .ite (fun hf=>by cases hf) fun _=> .ret ⟨m-1,by omega,i+1,w1,by omega,hT.mono (by omega),ho.up (by omega)⟩
  ·rw [Ji,Aa];exact .ret ⟨m-1,by omega,i+1,w1,by omega,FY.mono (by omega),ho.up (by omega)⟩
  ·refine(Hb 2 ho (by omega)).bind fun u hu=> .ite (fun _=> ?_) fun _=> .ret ⟨m-1,by omega,i+1,w1,by omega,hT.mono (by omega),hu.up (by omega)⟩;rw [Ji,Aa];exact .ret ⟨m-1,by omega,i+1,w1,by omega,FY.mono (by omega),hu.up (by omega)⟩
 ·exact .ret ((zxc (c:=⟨a,b,e⟩) hI Eo OA hb (hT.mono (by omega)) ho (by omega)).mono fun p hp=>⟨hp.1,hp.2.up (by omega)⟩)
theorem zxa [Inhabited Ce] {t:Ad} {y:At} {v11:List Ac × Ap} {rs:List Ac} {k:Int} (ht:B6 t y.ab=true) (DK:De 5 rs) (hrg:BZ rs=true) (Eo:De 20 v11.1) (h:A4 v11.2 k) (hk:k≤4611686018427100000):
  Bi (lH y t v11 rs) fun p=>(Hl 0 p.1∧BR p.1)∧A4 p.2 (k+400):=by
 unfold lH;have hg:=IS ht;have f:=Fg ht;have hn:y.ab.length≤10:=by have:=(L9 (show CG y.ab 1=true by rw [←f.1.name];exact(Ey hg f.2.2.1).1)).1;omega
 refine(DN 4 h (by omega)).bind fun p ⟨hp,hc⟩=>(DN 3 hc (by omega)).bind fun r ⟨hr,hd⟩=> ?_;have p2:=hp.2.1 (by omega);have r2:=hr.2.1 (by omega);have hW:Ld rs:=(DK.mc (by omega)).small;rw [Bc (n:=1+r.1) (by omega) (by omega),zy2 ht hn hp.1 (by omega) (by omega) (by omega) hW,Aa,if_pos hrg];have hI:TK t y.ab rs ((⟨y.ab,way t (Ci t y.ab) (BD t y.ab) p.1,List.replicate (1+r.1).toNat 0,rs⟩:Au),true).1:=by
  have hw:=zz0 ht hp.1 (by omega);have hlen:(way t (Ci t y.ab) (BD t y.ab) p.1).length≤4∧1≤(way t (Ci t y.ab) (BD t y.ab) p.1).length:=by unfold way;have:=rB 3 (BD t y.ab) p.1;rw [Ao,List.length_map];omega
  exact⟨hn,hlen.1,hw,by dsimp only;rw [List.length_replicate];omega,hlen.2,zEj ht hp.1 (by omega),by dsimp only;rw [List.length_replicate];omega,DK⟩
 have hz: ∀z∈((⟨y.ab,way t (Ci t y.ab) (BD t y.ab) p.1,List.replicate (1+r.1).toNat 0,rs⟩:Au),true).1.bp,z=0:=fun z hz=>(List.mem_replicate.1 hz).2;generalize ((⟨y.ab,way t (Ci t y.ab) (BD t y.ab) p.1,List.replicate (1+r.1).toNat 0,rs⟩:Au),true)=v at hI hz;have GJ:=hI.some_;have hws:=hI.ways;have OA:=hI.at_;refine(DN _ hd (by omega)).bind fun g ⟨uO,he⟩=> ?_;refine Mc (fun m s=> ∃i:Nat,s.1=(i:Int)∧i+m=v.1.bp.length∧s.2.2.2.2.length=v.1.bp.length∧(∀z∈s.2.2.2.2,0≤z∧z≤(v.1.ak.length:Int)-1)∧A4 ⟨s.2.1,s.2.2.1,s.2.2.2.1⟩ (k+6+10*i)) (fun m s hJ=> ?_) (n:=v.1.bp.length) (by refine⟨0,rfl,by omega,rfl,fun z Nc=> ?_,he.up (by omega)⟩;rw [hz z Nc];omega)
 obtain⟨i,e1,e2,hl,hb,ho⟩:=hJ;obtain⟨s1,a,b,e,ats⟩:=s;dsimp only at e1 hl hb ho ⊢;subst e1;unfold zg5;refine .ite (fun Am=> ?_) fun ET=> ?_
 ·simp only [decide_eq_true_eq]at Am;have hi:i<v.1.bp.length:=by omega
  have QR:i<ats.length:=by omega
  have hg3:=uO.2.2;have hg4:=uO.2.1 (by omega);have w1:IntKind.i64.wrap ((i:Int)+1)=((i+1:Nat):Int):=by rw [Bc (by omega) (by omega)];omega
  refine(DN 2 ho (by omega)).bind fun u ⟨hu,hf⟩=> ?_;have u2:=hu.2.1 (by omega);obtain⟨z,ez,z0,z1⟩: ∃z,ZU (IntKind.i64.wrap (g.1+u.1)) (IntKind.i64.wrap ((v.1.ak.length:Int)-1))=some z∧0≤z∧z≤(v.1.ak.length:Int)-1:=by
   rw [Bc (by omega) (by omega),Bc (by omega) (by omega)];unfold ZU;split
   ·rename_i hh;rw [decide_eq_true_eq]at hh;exact⟨_,rfl,by omega,by omega⟩
   ·exact⟨_,rfl,by omega,by omega⟩
  rw [ez,Aa,AN QR,Aa];have J5: ∀{x:Int} {l:List Int} {j:Nat},(∀z∈l,0≤z∧z≤(v.1.ak.length:Int)-1)→0≤x→x≤(v.1.ak.length:Int)-1→ ∀z∈l.set j x,0≤z∧z≤(v.1.ak.length:Int)-1:=by
   intro x l j h0 h1 h2 z hz;rcases List.mem_or_eq_of_mem_set hz with hz|rfl
   ·exact h0 z hz
   ·exact⟨h1,h2⟩
  refine(Hb 9 hf (by omega)).bind fun o UB=> .ite (fun _=> ?_) fun _=> .ret ⟨m-1,by omega,i+1,w1,by omega,by rw [List.length_set];exact hl,J5 hb z0 z1,UB.up (by omega)⟩;refine(DN _ UB (by omega)).bind fun q ⟨hq,hh⟩=> .ret ⟨m-1,by omega,i+1,w1,by omega,by rw [List.length_set,List.length_set];exact hl,J5 (J5 hb z0 z1) hq.1 (by have:=hq.2.1 (by omega);omega),hh.up (by omega)⟩
 ·exact .ret ((zx2 (c:=⟨a,b,e⟩) ht DK hI Eo hl hb ho (by omega)).mono fun p hp=>⟨hp.1,hp.2.up (by omega)⟩)
theorem zyk [Inhabited Ce] {t:Ad} {c:Ap} {k:Int} (hg:A0 t=true) (A2:t.ah≠ []) (h:A4 c k) (hk:k≤4611686018427000000):
  Bi (Vn c.aw c.bz c.az t.ab t.ar t.ah) fun p=>(Hl 0 p.1∧BR p.1)∧A4 p.2 (k+2000):=by
 unfold Vn;have hS:=GM hg;have ID:0<t.ah.length:=List.length_pos_iff.2 A2;have hm:=List.getElem_mem ID;rw [show getI t.ah 0=some t.ah[0]from AN ID,Aa];refine(DN 4 (c:=⟨c.aw,c.bz,c.az⟩) h (by omega)).bind fun p ⟨hp,hc⟩=> ?_;have p2:=hp.2.1 (by omega);have hI:B6 t t.ah[0].ab=true:=by unfold B6;have:=NY (fun y:At=>y.ab==t.ah[0].ab) t.ah;rw [show(t.ah.any fun y=>y.ab==t.ah[0].ab)=true from List.any_eq_true.2 ⟨_,hm,by simp⟩]at this;rw [hg,this];rfl
 rw [show(⟨t.ab,t.ar,t.ah⟩:Ad)=t from rfl,jD hS (cT hg hm),Aa];have ek:C7 t (BH (fun y:At=>y.ab==t.ah[0].ab) t.ah) p.1=C7 t (Ci t t.ah[0].ab) p.1:=rfl;rw [ek];have Xr:=wO (c:=p.1) hI (B7.2 ⟨hp.1,by omega⟩);generalize t.ah[0]=y at Xr;generalize C7 t (Ci t y.ab) p.1=t' at Xr;have Ck:=IS Xr;have uD:=GM Ck;refine(zEJ Ck hc (by omega)).bind fun l ⟨⟨hl,Ly⟩,hd⟩=> ?_;have DI:=hl.len;rw [Qh uD.name (by omega) (fun w hw=>Ko (hl.bu w hw)),Aa];have hR:(rows t' l.1).length≤5:=by unfold rows;rw [List.length_map];exact Ly
 have FR: ∀r∈rows t' l.1,Bd t' r=true:=fun r hr=>Kn hr;generalize rows t' l.1=R at hR FR;refine Mc (fun m s=> ∃i:Nat,s.2=(i:Int)∧i+m=R.length∧De i s.1) (fun m s hJ=> ?_) (n:=R.length) (by exact⟨0,rfl,by omega,⟨⟨.nil,by simp,by simp⟩,by simp⟩⟩);obtain⟨i,e1,e2,hT⟩:=hJ;obtain⟨ws,s1⟩:=s;dsimp only at e1 hT ⊢;subst e1;have Na:=hT.len;unfold zhi;refine .ite (fun Am=> ?_) fun ET=> ?_
 ·simp only [decide_eq_true_eq]at Am;have hi:i<R.length:=by omega
  have w1:IntKind.i64.wrap ((i:Int)+1)=((i+1:Nat):Int):=by rw [Bc (by omega) (by omega)];omega
  have Ed:=FR _ (List.getElem_mem hi);obtain⟨hs,h2⟩:=IQ Ck Ed;have A2:R[i].ax≠ []:=fun e=>by rw [e]at h2;simp at h2
  have hw:=NO Ck Ed;rw [AN hi,Aa,K5 uD.name hs.small A2,Aa,Ml (by omega) hT.cd,Aa];exact .ret ⟨m-1,by omega,i+1,w1,by omega,Tk hT (w:=AQ t' R[i]) (WJ hw.1 hw.2) rfl⟩
 ·exact .ret ((zxa Xr (hT.mono (by omega)) (by rw [aX hT.cd hT.bu hT.live];exact decide_eq_true (by omega)) hl hd (by omega)).mono fun p hp=>⟨hp.1,hp.2.up (by omega)⟩)
def Pr:Int:=3000000000000000
theorem zxm [Inhabited Ce] {c:Ap} {k:Int} (h:A4 c k) (hs:sd c) (hl:(c.aw.length:Int)≤1048576) (hk:k≤1000000000000000000):Bi (NA c) fun p=>(Hl 0 p.1∧BR p.1)∧A4 p.2 (k+Pr):=by
 have T4:=h.2.1;have hm:Q7=70368744177664:=rfl;obtain⟨p,hp,hg,A2⟩:=(zxN (1048576+Q7) h (by omega)).and (zsa 1048576 Q7 h (by omega) hs (by omega) fun h1 h2 h3=>zAN h1 (by omega) h3);rw [zDc _ hp A2];refine(zyk hg.1 A2 hg.2 (by omega)).mono fun q hq=>⟨hq.1,hq.2.up ?_⟩
 unfold Pr;omega
theorem zvY [Inhabited Ce] {c:Ap} {k:Int} (h:A4 c k) (hs:sd c) (hl:(c.aw.length:Int)≤1048576) (hk:k≤1000000000000000000):Bi (YC c) fun p=>Hl 1 p.1∧A4 p.2 (k+Pr+100):=by
 unfold YC;have hf:Pr=3000000000000000:=rfl;refine(zxm h hs hl hk).bind fun s ⟨⟨hS,_⟩,hc⟩=>(DN 14 hc (by omega)).bind fun q ⟨_,hd⟩=> ?_;have h1:=hS.ways;have h2:=hS.at_;have h3:=hS.store.len;have h4:=hS.pe;refine .ite (fun _=> ?_) fun _=> .ite (fun _=> ?_) fun _=> .ite (fun _=> ?_) fun _=> .ite (fun _=> ?_) fun _=> .ite (fun _=> .ret ⟨⟨hS.name,by simp,by simp,by simp,by dsimp only;omega,by dsimp only;omega,hS.store⟩,hd.up (by omega)⟩) fun _=> .ite (fun _=> ?_) fun _=> .ret ⟨⟨hS.name,by dsimp only;omega,by simp,hS.way,by dsimp only;omega,by dsimp only;omega,hS.store⟩,hd.up (by omega)⟩
 ·refine(DN 6 hd (by omega)).bind fun u ⟨_,he⟩=> .req (by simp;omega) (.ret ⟨⟨hS.name,by dsimp only;omega,by simp,hS.way,by simp;omega,by dsimp only;omega,hS.store⟩,he.up (by omega)⟩)
 ·refine(WL hd (by omega)).bind fun u ⟨hu,he⟩=> .req (by simp;omega) (.ret ⟨⟨hS.name,by simp;omega,by simp,fun t ht=> ?_,by dsimp only;omega,by dsimp only;omega,hS.store⟩,he.up (by omega)⟩);dsimp only at ht;rcases Ai.1 ht with ht|ht
  ·exact hS.way t ht
  ·rw [List.mem_singleton.1 ht];exact hu
 ·refine(Ll _ (by simp) hd (by omega)).bind fun u ⟨hu,he⟩=> .ret ⟨⟨?_,by dsimp only;omega,by simp,hS.way,by dsimp only;omega,by dsimp only;omega,hS.store⟩,he.up (by omega)⟩;simp only [Ag,List.not_mem_nil,or_false]at hu;dsimp only;rcases hu with e|e<;>rw [e]<;>decide
 ·refine .req (by simp;omega) (.ret ⟨⟨hS.name,by dsimp only;omega,by simp,hS.way,by dsimp only;omega,by simp;omega,⟨by simp;omega,fun w hw=> ?_⟩⟩,hd.up (by omega)⟩);dsimp only at hw;rcases Ai.1 hw with hw|hw
  ·exact hS.store.each w hw
  ·rw [List.mem_singleton.1 hw];exact⟨by decide,by decide⟩
 ·have h5:=hS.least rfl;refine .req (by omega) (.ret ⟨⟨hS.name, ?_,by simp,fun t ht=> ?_,by dsimp only;omega,by dsimp only;omega,hS.store⟩,hd.up (by omega)⟩)
  ·dsimp only;unfold Bn;rw [List.length_drop,List.length_take];omega
  ·dsimp only at ht;unfold Bn at ht;exact hS.way t (List.mem_of_mem_take (List.mem_of_mem_drop ht))
theorem zys [Inhabited Ce] {c:Ap} {k:Int} {s:Au} (hS:Hl 1 s) (h1:1≤s.ak.length) (h:A4 c k) (hk:k≤4611686018427000000):Bi (YM c s) fun p=>Qp p.1.ay∧A4 p.2 (k+200):=by
 unfold YM;refine(DN _ h (by omega)).bind fun p ⟨_,hc⟩=>(Hb 3 hc (by omega)).bind fun u hu=> .ite (fun _=> ?_) fun _=> ?_
 ·exact(sA _ (by simp) hu (by omega)).bind fun q ⟨_,hd⟩=> .ret ⟨⟨KY,KY⟩,hd.up (by omega)⟩
 ·refine Bi.bind (P:=fun t=>A0 t=true) (.getI (by omega) (by omega) hS.way) fun t ht=> ?_;exact(zIe ht hS.store hu (by omega)).bind fun a ⟨ha,hd⟩=> .ret ⟨ha,hd.up (by omega)⟩
theorem zEv {s:Au} (hS:DS s):aM s s=some true:=by unfold aM;rw [if_pos (by simp),zBX hS.ways hS.way,Aa,if_pos rfl,zFC hS.at_,Aa,if_pos rfl,zEe hS.store.1];rfl
theorem zy1:DS Om:=⟨by simp [Om],by simp [Om],by simp [Om],by simp [Om],⟨by simp [Om],by simp [Om]⟩⟩
theorem Lm.refl {s:Au} (hS:DS s) (hg:BR s):Lm s s:=⟨hg,hS,rfl,rfl,rfl⟩
theorem Lm.trans {s r q:Au} (h:Lm s r) (k:Lm r q):Lm s q:=⟨k.bu,k.small,k.name.trans h.name,k.ways.trans h.ways,k.at_.trans h.at_⟩
theorem zB4 {s:Au} (hg:BR s):Hl 1 s:=by have hI:=hg.2.2.1 (AM s) (Kp hg.1).2;have f:=Fg hI;have hn:=(L9 (show CG s.ab 1=true by rw [←f.1.name];exact(Ey f.2.2.2.2.2 f.2.2.1).1)).1;have h3:=B7.1 hg.2.2.2.2.1;have hR:=(Eg hg.2.2.2.2.2.2).1;have hl:=hR.len;exact⟨by omega,by have:=hg.2.1;omega,by simp,fun t ht=>IS (hg.2.2.1 t ht),by omega,by omega,⟨by omega,fun w hw=>Ko (hR.bu w hw)⟩⟩
structure zKd (s:Au) (g:Bool):Prop where
 gi:PR s=some g
 hi:V2 s=some (if g=true then(He s,true)else(false,false))
 ci:V1 s=some (if g=true then(Fj s.bp,true)else(false,false))
 bu:g=true↔BR s
def A5:List B2→Nat→Nat→List Ac→Af→List Ac × Nat × Af
 | [],_,n,st,last=>(st,n,last)
 |_::_,0,n,st,last=>(st,n,last)
 |k::ks,m+1,n,st,last=>if(Bg st k.cj).2=true then A5 ks m (n+1) (Bg st k.cj).1 k.bb else(st,n,last)
def Lc (k:B2):Prop:=k.cj.length≤8∧ ∀o∈k.cj,Gn o
theorem SI: ∀(ks:List B2) (m n:Nat) {st:List Ac} {last:Af},(∀k∈ks,Lc k)→BZ st=true→BZ (A5 ks m n st last).1=true
 | [],_,_,_,_,_,h=>by simpa [A5]using h
 |_::_,0,_,_,_,_,h=>by simpa [A5]using h
 |k::ks,m+1,n,st,last,hk,h=>by
  unfold A5;split
  ·exact SI ks m (n+1) (fun k h=>hk k (by simp [h])) (Mg (hk k (by simp)).1 (hk k (by simp)).2 h)
  ·exact h
theorem zuP {f:AL} {many:Nat} {rest:List B2} (hl:rest.length≤2000000) (hm:many≤24) (ho: ∀k∈rest,Lc k): ∀(m q:Nat) (st:List Ac) (last:Af),q+m=rest.length→BZ st=true→
  AA (fun s:List Ac × Int × Ab=>KU f many rest s.1 s.2.1 s.2.2) (st,(q:Int),last)=ZI f rest (A5 (rest.drop q) (many-q) q st last).1 ((A5 (rest.drop q) (many-q) q st last).2.1:Int) (A5 (rest.drop q) (many-q) q st last).2.2
 |0,q,st,last,hq,hg=>by
  have hd:rest.drop q= []:=List.drop_eq_nil_of_le (by omega);rw [hd];refine Dw ?_;show KU f many rest st q last=_;unfold KU;rw [if_neg (by
   rw [decide_eq_true_eq];cases h:decide ((rest.length:Int)<many)with
   |true=>simp only [cond_true];omega
   |false=>simp only [cond_false];rw [decide_eq_false_iff_not]at h;omega)]
  rfl
 |m+1,q,st,last,hq,hg=>by
  have Am:q<rest.length:=by omega
  have hd:rest.drop q=rest[q]::rest.drop (q+1):=List.drop_eq_getElem_cons Am;by_cases hqm:q<many
  ·have hc:(q:Int)<(bif decide ((rest.length:Int)<many)then(rest.length:Int)else(many:Int)):=by
    cases h:decide ((rest.length:Int)<many)with
    |true=>simp only [cond_true];omega
    |false=>simp only [cond_false];omega
   obtain⟨h8,UB⟩:=ho _ (List.getElem_mem Am);have AU:=zyq h8 UB hg;have OX:many-q=(many-(q+1))+1:=by omega
   rw [hd,OX];unfold A5;by_cases KG:(Bg st rest[q].cj).2=true
   ·rw [if_pos KG];refine(DM (?_:KU f many rest st q last=some (.inl ((Bg st rest[q].cj).1,((q+1:Nat):Int),rest[q].bb)))).trans (zuP hl hm ho m (q+1) _ _ (by omega) (Mg h8 UB hg));unfold KU;rw [if_pos (decide_eq_true hc),AN Am,Aa,AU,Aa,if_neg (by simp [KG]),Bl Am (by omega)]
   ·rw [if_neg KG];refine Dw ?_;show KU f many rest st q last=_;unfold KU;rw [if_pos (decide_eq_true hc),AN Am,Aa,AU,Aa,if_pos (by simpa using KG)]
  ·have OX:many-q=0:=by omega
   rw [hd,OX];refine Dw ?_;show KU f many rest st q last=_;unfold KU;rw [if_neg (by
    rw [decide_eq_true_eq];cases h:decide ((rest.length:Int)<many)with
    |true=>rw [decide_eq_true_eq]at h;simp only [cond_true];omega
    |false=>simp only [cond_false];omega)]
   rfl
def behind (last k:Af):Bool:= !(Op.bytesLess k last||k==last)
theorem vO {ks:List B2} {st:List Ac} {f:AL} {many:Int} (hl:ks.length≤2000000) (hk: ∀k∈ks,Lc k) (hg:BZ st=true) (h1:1≤many) (h2:many≤24):
  NK ks st f many=some ((A5 (ks.filter fun k=>behind f.al k.bb) many.toNat 0 st f.al).1,⟨(A5 (ks.filter fun k=>behind f.al k.bb) many.toNat 0 st f.al).2.2,f.bg||((A5 (ks.filter fun k=>behind f.al k.bb) many.toNat 0 st f.al).2.1==(ks.filter fun k=>behind f.al k.bb).length)⟩):=by
 have hc:kW ks=some ks:=NW (by omega) (by omega);have hp: ∀k∈ks,Z0 k f=some (Op.bytesLess k.bb f.al||k.bb==f.al):=fun k _=>rfl;have hD:Jp ks (fun y0_=>Z0 y0_ f)=some (ks.filter fun k=>behind f.al k.bb):=by unfold Jp;rw [AT (by omega),bL _ hp];rfl
 unfold NK;rw [hc,Aa,hD,Aa];generalize hr:(ks.filter fun k=>behind f.al k.bb)=rest;have J3:rest.length≤ks.length:=by rw [←hr];exact List.length_filter_le _ _
 have HC: ∀k∈rest,Lc k:=fun k h=>by rw [←hr]at h;exact hk k (List.mem_filter.1 h).1
 obtain⟨m,rfl⟩:=Int.eq_ofNat_of_zero_le (show 0≤many by omega);have e:=zuP (f:=f) (many:=m) (rest:=rest) (by omega) (by omega) HC rest.length 0 st f.al (by omega) hg;rw [List.drop_zero,Nat.sub_zero]at e;refine e.trans ?_;rw [Int.toNat_natCast];have Ed:=SI rest m 0 (last:=f.al) HC hg;generalize A5 rest m 0 st f.al=r at Ed;unfold ZI;have hR:=(Eg Ed).1.len;have AG:PC r.1=some r.1:=NW (by omega) (by omega);have e2:(((r.2.1:Nat):Int)==((rest.length:Nat):Int))=(r.2.1==rest.length):=by rw [Bool.eq_iff_iff,beq_iff_eq,beq_iff_eq];omega
 rw [AG,Aa,e2]
theorem Jr (last k:Af):behind last k=bl last k:=by unfold behind;rw [cR,Bool.not_not]
def E4:List B2→Nat→List Ac→Af→List Ac × Af
 | [],_,st,last=>(st,last)
 |k::ks,m,st,last=>if m=0∨behind last k.bb=false then E4 ks m st last else if(Bg st k.cj).2=true then E4 ks (m-1) (Bg st k.cj).1 k.bb else(st,last)
theorem zu2: ∀(ks:List B2) (st:List Ac) (last:Af),E4 ks 0 st last=(st,last)
 | [],_,_=>rfl
 |k::ks,st,last=>by unfold E4;rw [if_pos (.inl rfl)];exact zu2 ks st last
theorem zz6: ∀(ks:List B2) (m n:Nat) (st:List Ac) (last:Af),ks.Pairwise (fun a b=>bl a.bb b.bb=true)→(∀k∈ks,behind last k.bb=true)→E4 ks m st last=((A5 ks m n st last).1,(A5 ks m n st last).2.2)
 | [],m,n,st,last,_,_=>by simp [E4,A5]
 |k::ks,0,n,st,last,_,_=>by rw [zu2];simp [A5]
 |k::ks,m+1,n,st,last,hr,hb=>by
  rw [List.pairwise_cons]at hr;unfold E4 A5;rw [if_neg (by rw [hb k (by simp)];simp)];by_cases hd:(Bg st k.cj).2=true
  ·rw [if_pos hd,if_pos hd,Nat.add_sub_cancel];exact zz6 ks m (n+1) _ _ hr.2 fun q hq=>by rw [Jr];exact hr.1 q hq
  ·rw [if_neg hd,if_neg hd]
theorem zrb: ∀(ks:List B2) (m:Nat) (st:List Ac) (last:Af),ks.Pairwise (fun a b=>bl a.bb b.bb=true)→E4 ks m st last=E4 (ks.filter fun k=>behind last k.bb) m st last
 | [],m,st,last,_=>rfl
 |k::ks,m,st,last,hr=>by
  rw [List.pairwise_cons]at hr;by_cases hb:behind last k.bb=true
  ·have Cj:ks.filter (fun k=>behind last k.bb)=ks:=List.filter_eq_self.2 fun q hq=>by
    rw [Jr]at hb ⊢;exact F8 hb (hr.1 q hq)
   rw [List.filter_cons_of_pos (by simpa using hb),Cj]
  ·rw [List.filter_cons_of_neg (by simpa using hb)];have:E4 (k::ks) m st last=E4 ks m st last:=by
    rw [E4,if_pos (.inr (by simpa using hb))]
   rw [this];exact zrb ks m st last hr.2
theorem zuN {ks:List B2} {m:Nat} {st:List Ac} {last:Af} (hr:ks.Pairwise (fun a b=>bl a.bb b.bb=true)):E4 ks m st last=((A5 (ks.filter fun k=>behind last k.bb) m 0 st last).1,(A5 (ks.filter fun k=>behind last k.bb) m 0 st last).2.2):=
 (zrb ks m st last hr).trans (zz6 _ m 0 st last (hr.filter _) fun k hk=>by simpa using(List.mem_filter.1 hk).2)
theorem sC: ∀(ks:List B2) (m n:Nat) (st:List Ac) (last:Af),n≤(A5 ks m n st last).2.1∧(A5 ks m n st last).2.1≤n+ks.length
 | [],m,n,st,last=>by simp [A5]
 |k::ks,0,n,st,last=>by simp [A5]
 |k::ks,m+1,n,st,last=>by
  unfold A5;split
  ·have:=sC ks m (n+1) (Bg st k.cj).1 k.bb;simp only [Ao];omega
  ·simp
theorem aT: ∀(ks:List B2) (m n:Nat) (st:List Ac) (last:Af),ks.Pairwise (fun a b=>bl a.bb b.bb=true)→(∀k∈ks,bl last k.bb=true)→ ∀(i:Nat) (h:i<ks.length),bl (A5 ks m n st last).2.2 ks[i].bb=decide ((A5 ks m n st last).2.1≤n+i)
 | [],_,_,_,_,_,_,i,h=>by simp at h
 |k::ks,0,n,st,last,_,hb,i,h=>by simp only [A5];rw [hb _ (List.getElem_mem h)];exact(decide_eq_true (by omega)).symm
 |k::ks,m+1,n,st,last,hr,hb,i,h=>by
  rw [List.pairwise_cons]at hr;unfold A5;split
  ·cases i with
   |zero=>
    have h1:=sC ks m (n+1) (Bg st k.cj).1 k.bb;rw [decide_eq_false (by omega)];have key: ∀(ks:List B2) (m n:Nat) (st:List Ac) (last:Af),ks.Pairwise (fun a b=>bl a.bb b.bb=true)→(∀q∈ks,bl last q.bb=true)→(A5 ks m n st last).2.2=last∨bl last (A5 ks m n st last).2.2=true:=by
     intro ks
     induction ks with
     |nil=>intro m n st last _ _;left;simp [A5]
     |cons q ks ih=>
      intro m n st last hr hb;rw [List.pairwise_cons]at hr;cases m with
      |zero=>left;simp [A5]
      |succ m=>
       unfold A5;split
       ·rcases ih m (n+1) (Bg st q.cj).1 q.bb hr.2 hr.1 with e|e
        ·rw [e];exact .inr (hb q (by simp))
        ·exact .inr (F8 (hb q (by simp)) e)
       ·left;rfl
    show bl _ k.bb=false;rcases key ks m (n+1) (Bg st k.cj).1 k.bb hr.2 hr.1 with e|e
    ·rw [e];cases Hq:bl k.bb k.bb with
     |false=>rfl
     |true=>exact absurd rfl (FA Hq)
    ·cases Hq:bl (A5 ks m (n+1) (Bg st k.cj).1 k.bb).2.2 k.bb with
     |false=>rfl
     |true=>exact absurd rfl (FA (F8 e Hq))
   |succ i=>have:=aT ks m (n+1) (Bg st k.cj).1 k.bb hr.2 hr.1 i (by simpa using h);rw [List.getElem_cons_succ,this];congr 1;rw [eq_iff_iff];omega
  ·rw [hb _ (List.getElem_mem h)];exact(decide_eq_true (show n≤n+i by omega)).symm
def Lg (ks:List B2) (f:AL) (m:Nat) (st:List Ac):List Ac × AL:=((A5 (ks.filter fun k=>behind f.al k.bb) m 0 st f.al).1,⟨(A5 (ks.filter fun k=>behind f.al k.bb) m 0 st f.al).2.2,f.bg||((A5 (ks.filter fun k=>behind f.al k.bb) m 0 st f.al).2.1==(ks.filter fun k=>behind f.al k.bb).length)⟩)
def Bu (t:Ad) (x:At) (r:AD):B2:=⟨(AQ t r).af, [⟨7,(AQ t r).af,(AQ t r).a7,0⟩,⟨2,Bv t x.ab x.bj r, [],0⟩]⟩
def BT (k:Af):B2:=⟨k, [⟨3,k, [],0⟩]⟩
theorem WK {t:Ad} {x:At} {r:AD} (hg:A0 t=true) (hx:x∈t.ah) (hr:Bd t r=true):Lc (Bu t x r):=by
 have h1:=NO hg hr;have h2:=Wl (n:=x.ab) (c:=x.bj) hg (Ey hg hx).1 hr;refine⟨by simp [Bu],fun o ho=> ?_⟩;simp only [Bu,Ag,List.not_mem_nil,or_false]at ho;rcases ho with rfl|rfl
 ·exact⟨h1.1,h1.2,rfl,by simp,by simp⟩
 ·exact⟨h2,show Gj ([]:Af)=true by decide,rfl,by simp,by simp⟩
theorem WA {k:Af} (h:An k=true):Lc (BT k):=by refine⟨by simp [BT],fun o ho=> ?_⟩;simp only [BT,Ag,List.not_mem_nil,or_false]at ho;subst ho;exact⟨h,show Gj ([]:Af)=true by decide,rfl,by simp,by simp⟩
theorem rE {t:Ad} {x:At} {f:AL} {R:List AD} (hg:A0 t=true) (hx:x∈t.ah) (hl:R.length≤2000000) (hR: ∀r∈R,Bd t r=true): ∀(m q many:Nat) (st:List Ac) (last:Af),q+m=R.length→many≤24→BZ st=true→
  AA (fun s:Int × Int × Ab × List Ac=>L1 t f x R s.1 s.2.1 s.2.2.1 s.2.2.2) ((many:Int),(q:Int),last,st)=RZ t f (E4 ((R.drop q).map (Bu t x)) many st last).2 (E4 ((R.drop q).map (Bu t x)) many st last).1
 |0,q,many,st,last,hq,hm,AZ=>by rw [List.drop_eq_nil_of_le (show R.length≤q by omega)];refine Dw ?_;show L1 t f x R many q last st=_;unfold L1;rw [if_neg (by rw [decide_eq_true_eq];omega)];rfl
 |m+1,q,many,st,last,hq,hm,AZ=>by
  have Am:q<R.length:=by omega
  have hr:=hR _ (List.getElem_mem Am);have hS:=GM hg;obtain⟨hs,h2⟩:=IQ hg hr;have A2:R[q].ax≠ []:=fun e=>by rw [e]at h2;simp at h2
  obtain⟨e1,_⟩:=oW hg hx hr;have ho:=WK hg hx hr;have KG:=Yh ho.1 ho.2 AZ;have e2:ZC t x R[q]=some (Bu t x R[q]).cj:=by unfold ZC;rw [K5 hS.name hs.small A2,Aa,e1,Aa];rfl
  have hw:=Bl Am (by omega);have DL:L1 t f x R many q last st=(if(((many:Int)==0)||(Op.bytesLess (Bu t x R[q]).bb last||(Bu t x R[q]).bb==last))=true then some (.inl ((many:Int),((q+1:Nat):Int),last,st))else if(Bg st (Bu t x R[q]).cj).2=true then some (.inl (IntKind.i64.wrap ((many:Int)-1),((q+1:Nat):Int),(Bu t x R[q]).bb,(Bg st (Bu t x R[q]).cj).1))else some (.inr (RZ t f last st))):=by
   unfold L1;rw [if_pos (decide_eq_true (show(q:Int)<(R.length:Int) by omega)),AN Am,Aa,K5 hS.name hs.small A2,Aa,e2,Aa,KG,Aa,hw];rw [show(Bu t x R[q]).bb=(AQ t R[q]).af from rfl];by_cases hz:((many:Int)==0||(Op.bytesLess (AQ t R[q]).af last||(AQ t R[q]).af==last))=true
   ·rw [if_pos hz,if_pos hz]
   ·rw [if_neg hz,if_neg hz];by_cases hd:(Bg st (Bu t x R[q]).cj).2=true
    ·rw [if_pos hd,if_neg (by simp [hd])]
    ·rw [if_neg hd,if_pos (by simpa using hd)]
  rw [List.drop_eq_getElem_cons Am,List.map_cons];unfold E4;by_cases hc:many=0∨behind last (Bu t x R[q]).bb=false
  ·rw [if_pos hc];refine(DM ?_).trans (rE hg hx hl hR m (q+1) many st last (by omega) hm AZ);show L1 t f x R many q last st=_;rw [DL,if_pos];unfold behind at hc;rcases hc with hc|hc
   ·subst hc;rfl
   ·have hc:(Op.bytesLess (Bu t x R[q]).bb last||(Bu t x R[q]).bb==last)=true:=by
     cases h:(Op.bytesLess (Bu t x R[q]).bb last||(Bu t x R[q]).bb==last)with
     |true=>rfl
     |false=>rw [h]at hc;simp at hc
    rw [hc,Bool.or_true]
  ·rw [if_neg hc];have JJ: ¬(((many:Int)==0)||(Op.bytesLess (Bu t x R[q]).bb last||(Bu t x R[q]).bb==last))=true:=by
    rw [not_or]at hc;obtain⟨c1,c2⟩:=hc;unfold behind at c2;have c2:(Op.bytesLess (Bu t x R[q]).bb last||(Bu t x R[q]).bb==last)=false:=by
     cases h:(Op.bytesLess (Bu t x R[q]).bb last||(Bu t x R[q]).bb==last)with
     |false=>rfl
     |true=>rw [h]at c2;simp at c2
    rw [c2,Bool.or_false,beq_iff_eq];omega
   have OZ:0<many:=by
    rcases Nat.eq_zero_or_pos many with h|h
    ·exact absurd (.inl h) hc
    ·exact h
   by_cases hd:(Bg st (Bu t x R[q]).cj).2=true
   ·rw [if_pos hd];have F1:IntKind.i64.wrap ((many:Int)-1)=((many-1:Nat):Int):=by rw [Bc (by omega) (by omega)];omega
    refine(DM ?_).trans (rE hg hx hl hR m (q+1) (many-1) _ _ (by omega) (by omega) (Mg ho.1 ho.2 AZ));show L1 t f x R many q last st=_;rw [DL,if_neg JJ,if_pos hd,F1]
   ·rw [if_neg hd];refine Dw ?_;show L1 t f x R many q last st=_;rw [DL,if_neg JJ,if_neg hd]
theorem wV {ks:List Af} {last:Af} (hl:ks.length≤2000000):Z6 ks last=some (ks.any fun k=>behind last k):=by
 have go: ∀(m q:Nat),q+m=ks.length→AA (fun s:Int=>VM ks last s) (q:Int)=some ((ks.drop q).any fun k=>behind last k):=by
  intro m
  induction m with
  |zero=>intro q hq;rw [List.drop_eq_nil_of_le (show ks.length≤q by omega)];refine Dw ?_;unfold VM;rw [if_neg (by rw [decide_eq_true_eq];omega)];rfl
  |succ m ih=>
   intro q hq;have Am:q<ks.length:=by omega
   rw [List.drop_eq_getElem_cons Am,List.any_cons];by_cases hb:behind last ks[q]=true
   ·rw [hb,Bool.true_or];refine Dw ?_;unfold VM;rw [if_pos (decide_eq_true (show(q:Int)<(ks.length:Int) by omega)),AN Am,Aa,if_pos (show(!(Op.bytesLess ks[q] last||ks[q]==last))=true from hb)]
   ·rw [Bool.not_eq_true]at hb;rw [hb,Bool.false_or];refine(DM ?_).trans (ih (q+1) (by omega));unfold VM;rw [if_pos (decide_eq_true (show(q:Int)<(ks.length:Int) by omega)),AN Am,Aa,if_neg (show¬(!(Op.bytesLess ks[q] last||ks[q]==last))=true by rw [←Bool.not_eq_true]at hb;exact hb),Bl Am (by omega)]
 have:=go ks.length 0 (by omega);rw [List.drop_zero]at this;exact this
theorem zvo {t:Ad} {st:List Ac} (hg:A0 t=true) (hl:st.length≤2000000) (hr:Jn t st=some (rows t st)):Vv t st=some ((rows t st).map fun r=>(AQ t r).af):=by
 have hR:=rows_len t st;have Ed: ∀r∈rows t st,Bd t r=true:=fun r h=>Kn h;have hS:=GM hg;unfold Vv;rw [hr,Aa];generalize rows t st=R at hR Ed;have go: ∀(m q:Nat) (o:List Af),q+m=R.length→o.length=q→AA (fun s:List (Ab) × Int=>RM t R s.1 s.2) (o,(q:Int))=some (o++(R.drop q).map fun r=>(AQ t r).af):=by
  intro m
  induction m with
  |zero=>intro q o hq ho;rw [List.drop_eq_nil_of_le (show R.length≤q by omega)];refine Dw ?_;show RM t R o q=_;unfold RM;rw [if_neg (by rw [decide_eq_true_eq];omega)];simp
  |succ m ih=>
   intro q o hq ho;have Am:q<R.length:=by omega
   have hr:=Ed _ (List.getElem_mem Am);obtain⟨hs,h2⟩:=IQ hg hr;have A2:R[q].ax≠ []:=fun e=>by rw [e]at h2;simp at h2
   rw [List.drop_eq_getElem_cons Am,List.map_cons];refine(DM (?_:RM t R o q=some (.inl (o++ [(AQ t R[q]).af],((q+1:Nat):Int))))).trans ((ih (q+1) _ (by omega) (by simp [ho])).trans (by simp));unfold RM;rw [if_pos (decide_eq_true (show(q:Int)<(R.length:Int) by omega)),AN Am,Aa,K5 hS.name hs.small A2,Aa,AT (by rw [AH];omega),Bl Am (by omega)]
 have:=go R.length 0 [] (by omega) rfl;rw [List.drop_zero,List.nil_append]at this;exact this
theorem zFo {t:Ad} {n:Af} {x:At} {st:List Ac} (hg:A0 t=true) (hx:EK t n x) (Pj:x.ab=n) (hn:n.length≤2000000) (hl:st.length≤2000000) (hr:PE t st=some (rows t st)):Vp t n st=some ((rows t st).map (Bu t x)):=by
 have hR:=rows_len t st;have Ed: ∀r∈rows t st,Bd t r=true:=fun r h=>Kn h;have hS:=GM hg;unfold Vp;rw [hr,Aa];generalize rows t st=R at hR Ed;have go: ∀(m q:Nat) (o:List B2),q+m=R.length→o.length=q→AA (fun s:Int × List B2=>Rn t n R s.1 s.2) ((q:Int),o)=some (o++(R.drop q).map (Bu t x)):=by
  intro m
  induction m with
  |zero=>intro q o hq ho;rw [List.drop_eq_nil_of_le (show R.length≤q by omega)];refine Dw ?_;show Rn t n R q o=_;unfold Rn;rw [if_neg (by rw [decide_eq_true_eq];omega)];simp
  |succ m ih=>
   intro q o hq ho;have Am:q<R.length:=by omega
   have hr:=Ed _ (List.getElem_mem Am);obtain⟨hs,h2⟩:=IQ hg hr;have A2:R[q].ax≠ []:=fun e=>by rw [e]at h2;simp at h2
   have gR:YY t n R[q]=some (Bu t x R[q]).cj:=by unfold YY;rw [N5 hS.name hs.small A2,Aa,WH hS hn hx (bA hg hr),Aa];subst Pj;rfl
   rw [List.drop_eq_getElem_cons Am,List.map_cons];refine(DM (?_:Rn t n R q o=some (.inl (((q+1:Nat):Int),o++ [Bu t x R[q]])))).trans ((ih (q+1) _ (by omega) (by simp [ho])).trans (by simp));unfold Rn;rw [if_pos (decide_eq_true (show(q:Int)<(R.length:Int) by omega)),AN Am,Aa,N5 hS.name hs.small A2,Aa,gR,Aa,AT (by rw [AH];omega),Bl Am (by omega)];rfl
 have:=go R.length 0 [] (by omega) rfl;rw [List.drop_zero,List.nil_append]at this;exact this
theorem zDi {t:Ad} {n:Af} {st:List Ac} (hl:st.length≤2000000) (hr:KR t n st=some (Be t n st)):RH t n st=some ((Be t n st).map BT):=by
 have hR:=SL t n st;unfold RH;rw [hr,Aa];generalize Be t n st=R at hR;have go: ∀(m q:Nat) (o:List B2),q+m=R.length→o.length=q→AA (fun s:Int × List B2=>Rx R s.1 s.2) ((q:Int),o)=some (o++(R.drop q).map BT):=by
  intro m
  induction m with
  |zero=>intro q o hq ho;rw [List.drop_eq_nil_of_le (show R.length≤q by omega)];refine Dw ?_;show Rx R q o=_;unfold Rx;rw [if_neg (by rw [decide_eq_true_eq];omega)];simp
  |succ m ih=>
   intro q o hq ho;have Am:q<R.length:=by omega
   rw [List.drop_eq_getElem_cons Am,List.map_cons];refine(DM (?_:Rx R q o=some (.inl (((q+1:Nat):Int),o++ [BT R[q]])))).trans ((ih (q+1) _ (by omega) (by simp [ho])).trans (by simp));unfold Rx;rw [if_pos (decide_eq_true (show(q:Int)<(R.length:Int) by omega)),AN Am,Aa,AT (by rw [AH];omega),Bl Am (by omega)];rfl
 have:=go R.length 0 [] (by omega) rfl;rw [List.drop_zero,List.nil_append]at this;exact this
theorem zuS {t:Ad} {x:At} {st:List Ac} (hr:Da st):((rows t st).map (Bu t x)).Pairwise (fun a b=>bl a.bb b.bb=true):=by unfold rows;rw [List.map_map,List.pairwise_map];refine List.Pairwise.imp_of_mem (fun{a b} ha hb h=> ?_) (List.Pairwise.filter (Co t) hr);show bl (AQ t (B5 a)).af (AQ t (B5 b)).af=true;rw [←(Fw (List.mem_filter.1 ha).2).2,←(Fw (List.mem_filter.1 hb).2).2];exact h
theorem zsx {t:Ad} {n:Af} {st:List Ac} (hr:Da st):((Be t n st).map BT).Pairwise (fun a b=>bl a.bb b.bb=true):=by unfold Be;rw [List.map_map,List.pairwise_map];exact(List.Pairwise.filter _ hr).imp fun h=>h
theorem zGU {s:Au} {st:List Int} (hs:L6 s=some st) (hl:st.length≤2000000):ZY s=some (st.all fun y=>decide (y≥2),st.any fun y=>decide (y≥2)):=by
 unfold ZY;rw [hs,Aa];have go: ∀(m q:Nat) (a b:Bool),q+m=st.length→AA (fun s:Bool × Bool × Int=>R0 st s.1 s.2.1 s.2.2) (a,b,(q:Int))=some (a&&(st.drop q).all (fun y=>decide (y≥2)),b||(st.drop q).any fun y=>decide (y≥2)):=by
  intro m
  induction m with
  |zero=>intro q a b hq;rw [List.drop_eq_nil_of_le (show st.length≤q by omega)];refine Dw ?_;show R0 st a b q=_;unfold R0;rw [if_neg (by rw [decide_eq_true_eq];omega)];simp
  |succ m ih=>
   intro q a b hq;have Am:q<st.length:=by omega
   rw [List.drop_eq_getElem_cons Am,List.all_cons,List.any_cons,←Bool.and_assoc,←Bool.or_assoc];refine(DM ?_).trans (ih (q+1) _ _ (by omega));show R0 st a b q=_;unfold R0;rw [if_pos (decide_eq_true (show(q:Int)<(st.length:Int) by omega)),AN Am,Aa,Bl Am (by omega)]
 have:=go st.length 0 true false (by omega);rw [List.drop_zero,Bool.true_and,Bool.false_or]at this;exact this
theorem zIJ {w:AI} {st:List Int} (hn:st.length=w.ae.bp.length) (hl:st.length≤2000000) (hs: ∀(i:Nat) (hi:i<st.length),∃tb,GL w.ae i=some tb∧Ki w.ae tb=some st[i]):RA w=some ((st.filter fun y=>decide (y≥2)).length:Int):=by
 have go: ∀(m q c:Nat),q+m=st.length→c≤q→AA (fun s:Int × Int=>Nw w s.1 s.2) ((c:Int),(q:Int))=some ((c+((st.drop q).filter fun y=>decide (y≥2)).length:Nat):Int):=by
  intro m
  induction m with
  |zero=>intro q c hq _;rw [List.drop_eq_nil_of_le (show st.length≤q by omega)];refine Dw ?_;show Nw w c q=_;unfold Nw;rw [if_neg (by rw [decide_eq_true_eq];omega)];simp
  |succ m ih=>
   intro q c hq hc;have Am:q<st.length:=by omega
   obtain⟨tb,e1,e2⟩:=hs q Am;have EX:NG st[q]=some (decide (st[q]≥2)):=rfl;have hw:IntKind.i64.wrap ((q:Int)+1)=((q+1:Nat):Int):=by rw [Bc (by omega) (by omega)];omega
   have F1:IntKind.i64.wrap ((c:Int)+1)=((c+1:Nat):Int):=by rw [Bc (by omega) (by omega)];omega
   rw [List.drop_eq_getElem_cons Am,List.filter_cons];by_cases hg:st[q]≥2
   ·rw [if_pos (decide_eq_true hg),Ao];refine(DM ?_).trans ((ih (q+1) (c+1) (by omega) (by omega)).trans (by rw [show c+1+((st.drop (q+1)).filter fun y=>decide (y≥2)).length=c+(((st.drop (q+1)).filter fun y=>decide (y≥2)).length+1)from by omega]));show Nw w c q=_;unfold Nw;rw [if_pos (decide_eq_true (show(q:Int)<(w.ae.bp.length:Int) by omega)),e1,Aa,e2,Aa,EX,Aa,if_pos (decide_eq_true hg),hw,F1]
   ·rw [if_neg (by simpa using hg)];refine(DM ?_).trans (ih (q+1) c (by omega) (by omega));show Nw w c q=_;unfold Nw;rw [if_pos (decide_eq_true (show(q:Int)<(w.ae.bp.length:Int) by omega)),e1,Aa,e2,Aa,EX,Aa,if_neg (by simpa using hg),hw]
 have:=go st.length 0 0 (by omega) (by omega);rw [List.drop_zero,Nat.zero_add]at this;exact this
theorem zsN {w:Ac} (hw:w.bh=true): ∀(l:List Ac),((Bj wk w l).filter fun y=> !y.bh).length≤l.length
 | []=>by simp [Bj,hw]
 |z::l=>by
  rw [Bj];split
  ·rw [List.filter_cons_of_neg (by simp [hw])];exact List.length_filter_le _ _
  ·split
   ·rw [List.filter_cons_of_neg (by simp [hw]),Ao];exact Nat.le_succ_of_le (List.length_filter_le _ _)
   ·have ih:=zsN hw l;rw [List.filter_cons];split<;>(simp only [Ao];omega)
theorem rF (st:List Ac) (k:Af):FC st (BT k).cj=([⟨k, [],true⟩],true):=by unfold FC IJ;simp [BT,Dy,Bj]
theorem bE {st:List Ac} {k:Af} (hg:BZ st=true):(Bg st (BT k).cj).2=true:=by have hl:=(Eg hg).1.len;have h:=zsN (w:=⟨k, [],true⟩) rfl st;unfold Bg;rw [rF,if_pos ⟨rfl,by unfold Dh;simp only [List.foldl_cons,List.foldl_nil];omega⟩]
theorem wI (st:List Ac) (t:Ad) (x:At) (r:AD): ∀(n:Nat) (got:List BO),(IJ st (Bu t x r).cj n got).1= []∨(IJ st (Bu t x r).cj n got).1= [⟨Bv t x.ab x.bj r, [],false⟩]
 |0,got=> .inl rfl
 |n+1,got=>by
  unfold IJ;split
  ·exact wI st t x r n _
  ·simp only [Bu,Dy];simp only [show¬((7:Int)=2)from by decide,show¬((7:Int)=3)from by decide,if_false,if_true];split
   ·split
    ·right;simp [Bj]
    ·left;rfl
   ·left;rfl
theorem zED {t:Ad} {w:Ac} (hk: ∀r,Bd t r=true→(AQ t r).af≠w.af): ∀(l:List Ac),(Bj wk w l).filter (Co t)=l.filter (Co t):=by
 have Dq: ∀y:Ac,y.af=w.af→Co t y=false:=fun y hy=>by
  cases h:Co t y with
  |false=>rfl
  |true=>obtain⟨h1,h2⟩:=Fw h;exact absurd (by rw [←h2,hy]) (hk _ h1)
 intro l
 induction l with
 |nil=>simp [Bj,Dq w rfl]
 |cons z l ih=>
  rw [Bj];split
  ·rw [List.filter_cons_of_neg (by simp [Dq w rfl])]
  ·split
   ·rename_i h;have hz:Co t z=false:=Dq z h.symm;rw [List.filter_cons_of_neg (by simp [Dq w rfl]),List.filter_cons_of_neg (by simp [hz])]
   ·rw [List.filter_cons,List.filter_cons,ih]
theorem zC1 {t:Ad} {x:At} {r:AD} {st:List Ac} (hg:A0 t=true) (hx:x∈t.ah) (hr:Bd t r=true) (AZ:BZ st=true):rows t (Bg st (Bu t x r).cj).1=rows t st:=by
 have MV:=(Eg AZ).2;have hid:st.filter (fun y=> !y.bh)=st:=List.filter_eq_self.2 fun y hy=>by rw [MV y hy];rfl
 have hl:=(Ey hg hx).1;unfold Bg;split
 ·show rows t (Dh st (IJ st (Bu t x r).cj 9 []).1)=_;rcases wI st t x r 9 []with e|e
  ·rw [e];unfold Dh;rw [List.foldl_nil,hid]
  ·rw [e];unfold Dh rows;rw [List.foldl_cons,List.foldl_nil];have Cj:(Bj wk ⟨Bv t x.ab x.bj r, [],false⟩ st).filter (fun y=> !y.bh)=Bj wk ⟨Bv t x.ab x.bj r, [],false⟩ st:=List.filter_eq_self.2 fun y hy=>by
    rcases mem_insK_any hy with rfl|hy
    ·rfl
    ·rw [MV y hy];rfl
   rw [Cj,zED fun q hq=>Wi hg hl hq hr]
 ·rfl
where
 mem_insK_any {w y:Ac}: ∀{l:List Ac},y∈Bj wk w l→y=w∨y∈l
  | [],h=> .inl (by simpa [Bj]using h)
  |z::l,h=>by
   rw [Bj]at h;split at h
   ·rcases Ag.1 h with h|h
    ·exact .inl h
    ·exact .inr h
   ·split at h
    ·rcases Ag.1 h with h|h
     ·exact .inl h
     ·exact .inr (by simp [h])
    ·rcases Ag.1 h with h|h
     ·exact .inr (by simp [h])
     ·rcases mem_insK_any h with h|h
      ·exact .inl h
      ·exact .inr (by simp [h])
theorem qG {t:Ad} {x:At} (hg:A0 t=true) (hx:x∈t.ah): ∀(R:List AD) (m n:Nat) (st:List Ac) (last:Af),(∀r∈R,Bd t r=true)→BZ st=true→rows t (A5 (R.map (Bu t x)) m n st last).1=rows t st
 | [],m,n,st,last,_,_=>by simp [A5]
 |r::R,0,n,st,last,_,_=>by simp [A5]
 |r::R,m+1,n,st,last,hr,AZ=>by
  rw [List.map_cons];unfold A5;split
  ·have ho:=WK hg hx (hr r (by simp));rw [qG hg hx R m (n+1) _ _ (fun q hq=>hr q (by simp [hq])) (Mg ho.1 ho.2 AZ)];exact zC1 hg hx (hr r (by simp)) AZ
  ·rfl
theorem pQ {ks:List B2} {m:Nat} {st:List Ac} {last:Af} (hr:ks.Pairwise (fun a b=>bl a.bb b.bb=true)):
  (ks.any fun k=>behind (A5 (ks.filter fun k=>behind last k.bb) m 0 st last).2.2 k.bb)= !((A5 (ks.filter fun k=>behind last k.bb) m 0 st last).2.1==(ks.filter fun k=>behind last k.bb).length):=by
 have M5:=hr.filter fun k=>behind last k.bb;have hb: ∀k∈ks.filter (fun k=>behind last k.bb),bl last k.bb=true:=fun k hk=>by rw [←Jr];simpa using(List.mem_filter.1 hk).2
 have hn:=sC (ks.filter fun k=>behind last k.bb) m 0 st last;have Cr:=aT (ks.filter fun k=>behind last k.bb) m 0 st last M5 hb;have ET:=pieceL_ge (ks.filter fun k=>behind last k.bb) m 0 st last M5 hb;generalize hP:A5 (ks.filter fun k=>behind last k.bb) m 0 st last=p at hn Cr ET;rw [Bool.eq_iff_iff,List.any_eq_true];constructor
 ·rintro⟨k,hk,QT⟩;rw [Jr]at QT;have hkr:k∈ks.filter fun k=>behind last k.bb:=by
   refine List.mem_filter.2 ⟨hk, ?_⟩;show behind last k.bb=true;rw [Jr];rcases ET with e|e
   ·rw [←e];exact QT
   ·exact F8 e QT
  obtain⟨i,hi,rfl⟩:=List.getElem_of_mem hkr;have:=Cr i hi;rw [QT]at this;have h2:=of_decide_eq_true this.symm;rw [Bool.not_eq_true',beq_eq_false_iff_ne];omega
 ·intro h;rw [Bool.not_eq_true',beq_eq_false_iff_ne]at h;have Am:p.2.1<(ks.filter fun k=>behind last k.bb).length:=by omega
  refine⟨_,(List.mem_filter.1 (List.getElem_mem Am)).1, ?_⟩;rw [Jr,Cr _ Am];exact decide_eq_true (by omega)
where
 pieceL_ge: ∀(ks:List B2) (m n:Nat) (st:List Ac) (last:Af),ks.Pairwise (fun a b=>bl a.bb b.bb=true)→(∀q∈ks,bl last q.bb=true)→(A5 ks m n st last).2.2=last∨bl last (A5 ks m n st last).2.2=true
  | [],m,n,st,last,_,_=> .inl (by simp [A5])
  |q::ks,0,n,st,last,_,_=> .inl (by simp [A5])
  |q::ks,m+1,n,st,last,hr,hb=>by
   rw [List.pairwise_cons]at hr;unfold A5;split
   ·rcases pieceL_ge ks m (n+1) (Bg st q.cj).1 q.bb hr.2 hr.1 with e|e
    ·rw [e];exact .inr (hb q (by simp))
    ·exact .inr (F8 (hb q (by simp)) e)
   ·exact .inl rfl
theorem qK: ∀(ks:List B2) (m n:Nat) (st:List Ac) (last:Af),(A5 ks m n st last).2.2=last∨ ∃k∈ks,(A5 ks m n st last).2.2=k.bb
 | [],m,n,st,last=> .inl (by simp [A5])
 |k::ks,0,n,st,last=> .inl (by simp [A5])
 |k::ks,m+1,n,st,last=>by
  unfold A5;split
  ·rcases qK ks m (n+1) (Bg st k.cj).1 k.bb with e|⟨q,hq,e⟩
   ·exact .inr ⟨k,by simp,e⟩
   ·exact .inr ⟨q,by simp [hq],e⟩
  ·exact .inl rfl
theorem zDR {t:Ad} {n:Af} {x:At} {st:List Ac} {f:AL} {many:Int} (hg:A0 t=true) (hx:EK t n x) (iS:x∈t.ah) (Pj:x.ab=n) (hn:n.length≤2000000) (Pd:t.ab.length=1) (AZ:BZ st=true) (h1:1≤many) (h2:many≤24):
  ∃r,V7 t n st f many=some r∧((Vp t n st).bind fun k=>NK k st f many)=some r∧BZ r.1=true∧(r.2.al=f.al∨An r.2.al=true)∧
   r=Lg ((rows t st).map (Bu t x)) f many.toNat st:=by
 have hR:=(Eg AZ).1;have hl:st.length≤2000000:=by have:=hR.len;omega
 have hT: ∀w∈st,FQ w:=fun w hw=>Ko (hR.bu w hw);have J3:=rows_len t st;have FR: ∀r∈rows t st,Bd t r=true:=fun r h=>Kn h;have IF:=Qh (t:=t) (by omega) hl hT;have fQ:=sL (t:=t) Pd hl hT;have Ax: ∀k∈(rows t st).map (Bu t x),Lc k:=fun k hk=>by obtain⟨r,hr,rfl⟩:=List.mem_map.1 hk;exact WK hg iS (FR r hr)
 have Cc:=zuS (t:=t) (x:=x) hR.cd;have EC:((rows t st).map (Bu t x)).length≤2000000:=by rw [List.length_map];omega
 obtain⟨m,rfl⟩:=Int.eq_ofNat_of_zero_le (show 0≤many by omega);have O5:=vO (f:=f) EC Ax AZ h1 h2;rw [Int.toNat_natCast]at O5 ⊢;have JR: ∀k∈((rows t st).map (Bu t x)).filter (fun k=>behind f.al k.bb),Lc k:=fun k hk=>Ax k (List.mem_filter.1 hk).1;have EV:=SI (((rows t st).map (Bu t x)).filter fun k=>behind f.al k.bb) m 0 (last:=f.al) JR AZ;have M4:rows t (A5 (((rows t st).map (Bu t x)).filter fun k=>behind f.al k.bb) m 0 st f.al).1=rows t st:=by
  have e:((rows t st).map (Bu t x)).filter (fun k=>behind f.al k.bb)=((rows t st).filter fun r=>behind f.al (AQ t r).af).map (Bu t x):=by rw [List.filter_map];rfl
  rw [e];exact qG hg iS _ m 0 st f.al (fun r hr=>FR r (List.mem_filter.1 hr).1) AZ
 have FV:=pQ (m:=m) (st:=st) (last:=f.al) Cc;have Fs:=qK (((rows t st).map (Bu t x)).filter fun k=>behind f.al k.bb) m 0 st f.al;refine⟨_, ?_,by rw [zFo hg hx Pj hn hl fQ,Aa];exact O5,EV,by
  rcases Fs with e|⟨k,hk,e⟩
  ·exact .inl e
  ·obtain⟨q,hq,rfl⟩:=List.mem_map.1 (List.mem_filter.1 hk).1;refine .inr ?_;show An (A5 _ m 0 st f.al).2.2=true;rw [e];exact(NO hg (FR q hq)).1,rfl⟩
 have J7:V7 t n st f m=RZ t f (E4 ((rows t st).map (Bu t x)) m st f.al).2 (E4 ((rows t st).map (Bu t x)) m st f.al).1:=by unfold V7;rw [AT (by simp;omega),Jx (GM hg),Aa,hx.at_,Aa,IF,Aa];have:=rE (f:=f) hg iS (R:=rows t st) (by omega) FR (rows t st).length 0 m st f.al (by omega) (by omega) AZ;rw [List.drop_zero]at this;exact this
 rw [J7,zuN Cc];unfold Lg;generalize hP:A5 (((rows t st).map (Bu t x)).filter fun k=>behind f.al k.bb) m 0 st f.al=p at EV M4 FV;dsimp only;unfold RZ;cases UC:f.bg with
 |true=>simp
 |false=>
  have HZ:=(Eg EV).1;rw [if_neg (by simp),zvo hg (by have:=HZ.len;omega) (Qh (by omega) (by have:=HZ.len;omega) fun w hw=>Ko (HZ.bu w hw)),Aa,M4,wV (by rw [List.length_map];omega),Aa];have e:((rows t st).map fun r=>(AQ t r).af).any (fun k=>behind p.2.2 k)=((rows t st).map (Bu t x)).any fun k=>behind p.2.2 k.bb:=by rw [List.any_map,List.any_map];rfl
  rw [e,FV];simp
theorem pT {t:Ad} {n:Af} {f:AL} {K:List Af} (hl:K.length≤2000000) (hK: ∀k∈K,An k=true): ∀(m q many:Nat) (st:List Ac) (last:Af),q+m=K.length→many≤24→BZ st=true→
  AA (fun s:Int × Int × Ab × List Ac=>ND t n f K s.1 s.2.1 s.2.2.1 s.2.2.2) ((many:Int),(q:Int),last,st)=Zh t n f (E4 ((K.drop q).map BT) many st last).2 (E4 ((K.drop q).map BT) many st last).1
 |0,q,many,st,last,hq,hm,AZ=>by rw [List.drop_eq_nil_of_le (show K.length≤q by omega)];refine Dw ?_;show ND t n f K many q last st=_;unfold ND;rw [if_neg (by rw [decide_eq_true_eq];omega)];rfl
 |m+1,q,many,st,last,hq,hm,AZ=>by
  have Am:q<K.length:=by omega
  have hk:=hK _ (List.getElem_mem Am);have ho:=WA hk;have KG:=Yh ho.1 ho.2 AZ;have eZ:P1 st [(⟨3,K[q], [],0⟩:Ay)]=some (Bg st (BT K[q]).cj):=KG;have hw:=Bl Am (by omega);rw [List.drop_eq_getElem_cons Am,List.map_cons];unfold E4;by_cases hc:many=0∨behind last (BT K[q]).bb=false
  ·rw [if_pos hc];refine(DM ?_).trans (pT hl hK m (q+1) many st last (by omega) hm AZ);show ND t n f K many q last st=_;unfold ND;have JJ:((many:Int)==0||(Op.bytesLess K[q] last||K[q]==last))=true:=by
    rcases hc with hc|hc
    ·subst hc;rfl
    ·unfold behind at hc;cases h:(Op.bytesLess K[q] last||K[q]==last)with
     |true=>simp
     |false=>rw [show(BT K[q]).bb=K[q]from rfl,h]at hc;simp at hc
   rw [if_pos (decide_eq_true (show(q:Int)<(K.length:Int) by omega)),AN Am,Aa,if_pos JJ,hw]
  ·rw [if_neg hc,if_pos (bE AZ)];have OZ:0<many:=by
    rcases Nat.eq_zero_or_pos many with h|h
    ·exact absurd (.inl h) hc
    ·exact h
   have JJ: ¬((many:Int)==0||(Op.bytesLess K[q] last||K[q]==last))=true:=by
    rw [not_or]at hc;obtain⟨c1,c2⟩:=hc;unfold behind at c2;rw [show(BT K[q]).bb=K[q]from rfl]at c2;cases h:(Op.bytesLess K[q] last||K[q]==last)with
    |true=>rw [h]at c2;simp at c2
    |false=>rw [Bool.or_false,beq_iff_eq];omega
   have F1:IntKind.i64.wrap ((many:Int)-1)=((many-1:Nat):Int):=by rw [Bc (by omega) (by omega)];omega
   refine(DM ?_).trans (pT hl hK m (q+1) (many-1) _ _ (by omega) (by omega) (Mg ho.1 ho.2 AZ));show ND t n f K many q last st=_;unfold ND;rw [if_pos (decide_eq_true (show(q:Int)<(K.length:Int) by omega)),AN Am,Aa,if_neg JJ,eZ,Aa,hw,F1];rfl
theorem sN {k:Af}: ∀{l:List Ac},Da l→(∀w∈l,w.bh=false)→(Bj wk ⟨k, [],true⟩ l).filter (fun y=> !y.bh)=l.filter fun y=>y.af !=k
 | [],_,_=>by simp [Bj]
 |z::l,hr,hg=>by
  obtain⟨h1,h2⟩:=SY hr;have hz:z.bh=false:=hg z (by simp);have hid: ∀l':List Ac,(∀w∈l',w.bh=false)→l'.filter (fun y=> !y.bh)=l':=fun l' h=>List.filter_eq_self.2 fun y hy=>by rw [h y hy];rfl
  have A2: ∀l':List Ac,(∀y∈l',bl k y.af=true)→l'.filter (fun y=>y.af !=k)=l':=fun l' h=>List.filter_eq_self.2 fun y hy=>by have:=FA (h y hy);simpa using fun e=>this e.symm
  rw [Bj];split
  ·rename_i h;rw [List.filter_cons_of_neg (by simp),hid _ hg];exact(A2 _ fun y hy=>by
    rcases Ag.1 hy with rfl|hy
    ·exact h
    ·exact F8 h (h1 y hy)).symm
  ·split
   ·rename_i h;have h:k=z.af:=h;rw [List.filter_cons_of_neg (by simp),hid _ fun w hw=>hg w (by simp [hw]),List.filter_cons_of_neg (by simp [h])];exact(A2 _ fun y hy=>by rw [h];exact h1 y hy).symm
   ·rename_i h3 h4;rw [List.filter_cons_of_pos (by simp [hz]),List.filter_cons_of_pos (by simpa using fun e=>h4 e.symm),sN h2 fun w hw=>hg w (by simp [hw])]
theorem zwu {t:Ad} {n k:Af} {st:List Ac} (AZ:BZ st=true):Be t n (Bg st (BT k).cj).1=(Be t n st).filter fun e=>e !=k:=by
 have hd:=bE (k:=k) AZ;have hR:=Eg AZ;unfold Bg at hd ⊢;split at hd
 ·rename_i h;rw [if_pos h,rF];unfold Dh Be;rw [List.foldl_cons,List.foldl_nil,sN hR.1.cd hR.2,List.filter_map,List.filter_filter,List.filter_filter];congr 1;apply List.filter_congr;intro y _;simp [Bool.and_comm]
 ·cases hd
theorem nS {t:Ad} {nm:Af}: ∀(K:List Af) (m n:Nat) (st:List Ac) (last:Af),(K.map BT).Pairwise (fun a b=>bl a.bb b.bb=true)→(∀q∈K,bl last q=true)→(∀k∈K,An k=true)→BZ st=true→
  ∃p:Af→Bool,Be t nm (A5 (K.map BT) m n st last).1=(Be t nm st).filter p∧(∀k,bl (A5 (K.map BT) m n st last).2.2 k=true→p k=true)∧(∀k,p k=false→k∈K)∧ ∀k∈K,p k=true→bl (A5 (K.map BT) m n st last).2.2 k=true
 | [],m,n,st,last,_,_,_,_=>⟨fun _=>true,by simp only [List.map_nil,A5];exact(List.filter_eq_self.2 fun _ _=>rfl).symm,by simp,by simp,by simp⟩
 |k::K,0,n,st,last,_,hb,_,_=>⟨fun _=>true,by simp only [List.map_cons,A5];exact(List.filter_eq_self.2 fun _ _=>rfl).symm,by simp,by simp,fun q hq _=>by simpa [A5]using hb q hq⟩
 |k::K,m+1,n,st,last,hr,hb,hk,AZ=>by
  have ET:=pQ.pieceL_ge (K.map BT) m (n+1) (Bg st (BT k).cj).1 k;rw [List.map_cons,List.pairwise_cons]at hr;rw [List.map_cons];unfold A5;rw [if_pos (bE AZ)];have ho:=WA (hk k (by simp));have uY: ∀q∈K,bl k q=true:=fun q hq=>hr.1 (BT q) (List.mem_map.2 ⟨q,hq,rfl⟩);obtain⟨p,e1,e2,e3,e4⟩:=nS (t:=t) (nm:=nm) K m (n+1) (Bg st (BT k).cj).1 k hr.2 uY (fun q hq=>hk q (by simp [hq])) (Mg ho.1 ho.2 AZ);have ET:=ET hr.2 fun q hq=>by obtain⟨z,hz,rfl⟩:=List.mem_map.1 hq;exact uY z hz
  refine⟨fun e=>p e&&e !=k, ?_,fun e he=> ?_,fun e he=> ?_,fun e hm he=> ?_⟩
  ·show Be t nm (A5 (K.map BT) m (n+1) (Bg st (BT k).cj).1 k).1=_;rw [e1,zwu AZ,List.filter_filter]
  ·have he:bl (A5 (K.map BT) m (n+1) (Bg st (BT k).cj).1 k).2.2 e=true:=he;have A2:bl k e=true:=by
    rcases ET with g|g
    ·rw [g]at he;exact he
    ·exact F8 g he
   have:=FA A2;show(p e&&e !=k)=true;rw [e2 e he,Bool.true_and,bne_iff_ne];exact fun h=>this h.symm
  ·have he:(p e&&e !=k)=false:=he;rw [Bool.and_eq_false_iff]at he;rcases he with he|he
   ·exact List.mem_cons_of_mem _ (e3 e he)
   ·simp only [bne_eq_false_iff_eq]at he;rw [he];simp
  ·show bl (A5 (K.map BT) m (n+1) (Bg st (BT k).cj).1 k).2.2 e=true;simp only [Ae,bne_iff_ne]at he;rcases Ag.1 hm with rfl|hm
   ·exact absurd rfl he.2
   ·exact e4 e hm he.1
theorem aB {t:Ad} {n:Af} {st:List Ac} (AZ:BZ st=true): ∀k∈Be t n st,An k=true:=fun k hk=>by unfold Be at hk;obtain⟨w,hw,rfl⟩:=List.mem_map.1 hk;have:=(Eg AZ).1.bu w (List.mem_filter.1 hw).1;unfold CV at this;rw [Ae]at this;exact this.1
theorem zAK {t:Ad} {n:Af} {st:List Ac} {f:AL} {many:Int} (hg:A0 t=true) (hn:n.length≤2000000) (hh: ∀b∈head t n,b≠47) (AZ:BZ st=true) (h1:1≤many) (h2:many≤24):
  ∃r,VW t n st f many=some r∧((RH t n st).bind fun k=>NK k st f many)=some r∧BZ r.1=true∧(r.2.al=f.al∨An r.2.al=true)∧
   r=Lg ((Be t n st).map BT) f many.toNat st:=by
 have hR:=(Eg AZ).1;have hl:st.length≤2000000:=by have:=hR.len;omega
 have hT: ∀w∈st,FQ w:=fun w hw=>Ko (hR.bu w hw);have J3:=SL t n st;have hS:=GM hg;have QV:t.ab.length≤2000000:=by have:=hS.name;omega
 have QI:=aB (t:=t) (n:=n) AZ;have IF:=bR (t:=t) (n:=n) QV hn hl hT;have fQ:=pU (t:=t) (n:=n) QV hn hh hl hT;have Ax: ∀k∈(Be t n st).map BT,Lc k:=fun k hk=>by obtain⟨r,hr,rfl⟩:=List.mem_map.1 hk;exact WA (QI r hr)
 have Cc:=zsx (t:=t) (n:=n) hR.cd;have EC:((Be t n st).map BT).length≤2000000:=by rw [List.length_map];omega
 obtain⟨m,rfl⟩:=Int.eq_ofNat_of_zero_le (show 0≤many by omega);have O5:=vO (f:=f) EC Ax AZ h1 h2;rw [Int.toNat_natCast]at O5 ⊢;have JR: ∀k∈((Be t n st).map BT).filter (fun k=>behind f.al k.bb),Lc k:=fun k hk=>Ax k (List.mem_filter.1 hk).1;have EV:=SI (((Be t n st).map BT).filter fun k=>behind f.al k.bb) m 0 (last:=f.al) JR AZ;have Fs:=qK (((Be t n st).map BT).filter fun k=>behind f.al k.bb) m 0 st f.al;have FV:=pQ (m:=m) (st:=st) (last:=f.al) Cc;have e:((Be t n st).map BT).filter (fun k=>behind f.al k.bb)=((Be t n st).filter fun k=>behind f.al k).map BT:=by rw [List.filter_map];rfl
 have Bq: ∃p:Af→Bool,Be t n (A5 (((Be t n st).map BT).filter fun k=>behind f.al k.bb) m 0 st f.al).1=(Be t n st).filter p∧(∀k,bl (A5 (((Be t n st).map BT).filter fun k=>behind f.al k.bb) m 0 st f.al).2.2 k=true→p k=true):=by have Db:=Cc.filter fun k=>behind f.al k.bb;rw [e]at Db ⊢;obtain⟨p,e1,e2,_,_⟩:=nS (t:=t) (nm:=n) _ m 0 st f.al Db (fun q hq=>by rw [←Jr];simpa using(List.mem_filter.1 hq).2) (fun q hq=>QI q (List.mem_filter.1 hq).1) AZ;exact⟨p,e1,e2⟩
 refine⟨_, ?_,by rw [zDi hl fQ,Aa];exact O5,EV, ?_,rfl⟩
 ·have J7:VW t n st f m=Zh t n f (E4 ((Be t n st).map BT) m st f.al).2 (E4 ((Be t n st).map BT) m st f.al).1:=by
   unfold VW;rw [AT (by simp;omega),IF,Aa];have:=pT (t:=t) (n:=n) (f:=f) (K:=Be t n st) (by omega) QI (Be t n st).length 0 m st f.al (by omega) (by omega) AZ;rw [List.drop_zero]at this;exact this
  rw [J7,zuN Cc];unfold Lg;generalize hP:A5 (((Be t n st).map BT).filter fun k=>behind f.al k.bb) m 0 st f.al=p at EV Bq FV;dsimp only;unfold Zh;cases UC:f.bg with
  |true=>simp
  |false=>
   have HZ:=(Eg EV).1;obtain⟨pr,e1,e2⟩:=Bq;have OT:=SL t n p.1;rw [if_neg (by simp),bR QV hn (by have:=HZ.len;omega) (fun w hw=>Ko (HZ.bu w hw)),Aa,wV (by have:=HZ.len;omega),Aa];have e3:(Be t n p.1).any (fun k=>behind p.2.2 k)=((Be t n st).map BT).any fun k=>behind p.2.2 k.bb:=by
    rw [e1,List.any_filter,List.any_map];congr 1;funext k;show(pr k&&behind p.2.2 k)=behind p.2.2 k;cases hb:behind p.2.2 k with
    |false=>rw [Bool.and_false]
    |true=>rw [e2 k (by rw [←Jr];exact hb)];rfl
   rw [e3,FV];simp
 ·rcases Fs with e|⟨k,hk,e⟩
  ·exact .inl e
  ·obtain⟨q,hq,rfl⟩:=List.mem_map.1 (List.mem_filter.1 hk).1;refine .inr ?_;show An (A5 _ m 0 st f.al).2.2=true;rw [e];exact QI q hq
theorem zuW {k:Af} (h:k≠ []):behind [] k=true:=by
 cases k with
 |nil=>exact absurd rfl h
 |cons b k=>rfl
theorem zuX {k:Af} (h:An k=true):k≠ []:=by rintro rfl;revert h;decide
def Kx (t:Ad) (n:Af) (c:Int) (st:List Ac) (f:AL):Prop:= ∀q∈st,Co t q=true→(f.bg=true∨behind f.al q.af=false)→ ∃w∈st,w.af=Bv t n c (B5 q)
def Kv (t:Ad) (n:Af) (st:List Ac) (f:AL):Prop:= ∀w∈st,C4 t n w.af=true→f.bg=false∧behind f.al w.af=true
theorem zsk {t:Ad} {n:Af} {c:Int} {st:List Ac} (AZ:BZ st=true):Kx t n c st ⟨[],false⟩:=by
 intro q hq hr h;rcases h with h|h
 ·cases h
 ·have hg:=(Eg AZ).1.bu q hq;unfold CV at hg;rw [Ae]at hg;rw [zuW (zuX hg.1)]at h;cases h
theorem zrl {t:Ad} {n:Af} {st:List Ac} (AZ:BZ st=true):Kv t n st ⟨[],false⟩:=by intro q hq _;have hg:=(Eg AZ).1.bu q hq;unfold CV at hg;rw [Ae]at hg;exact⟨rfl,zuW (zuX hg.1)⟩
theorem ztt {t t':Ad} {n:Af} {c:Int} {st:List Ac} {f:AL} (h1:t.ab=t'.ab) (h2:t.ar=t'.ar):Kx t n c st f↔Kx t' n c st f:=by cases t;cases t';dsimp only at h1 h2;subst h1;subst h2;exact Iff.rfl
theorem zri {t t':Ad} {n:Af} {st:List Ac} {f:AL} (h1:t.ab=t'.ab) (h2:t.ar=t'.ar):Kv t n st f↔Kv t' n st f:=by cases t;cases t';dsimp only at h1 h2;subst h1;subst h2;exact Iff.rfl
section
variable {t:Ad} {a:Bf} {n:Af} {x:At} {st st':List Ac} {f:AL}
theorem Fl.jd (A:Fl t a n x) (hB:Qq t a st st') (hn: ∀w∈st,w.bh=false) (hs:2≤x.aq) (h:Kx t n x.bj st f):Kx t n x.bj st' f:=by
 intro q hq hr hf;obtain⟨Ed,Gf⟩:=Fw hr;obtain⟨Dp,h1|⟨h1,h2⟩⟩:=(hB q).1 hq
 ·obtain⟨e,k⟩:=A.ea h1 hr;have hm:(⟨Ea t a x, [],false⟩:Ac)∈GP t a x:=by
   unfold GP;refine Ai.2 (.inr ?_);rw [if_pos ⟨by rw [A.dv k];exact dG _ _ _ _,hs⟩];simp
  refine⟨_,(hB _).2 ⟨rfl, .inl (A.ie hm)⟩, ?_⟩;show Ea t a x=_;rw [e,Tf A.tab (A.new k),A.dv k,A.name]
 ·obtain⟨w,w1,w2⟩:=h q h1 hr hf;by_cases ho: ∀z∈D6 t a,z.af≠w.af
  ·exact⟨w,(hB w).2 ⟨hn w w1, .inr ⟨w1,ho⟩⟩,w2⟩
  ·have⟨z,hz,e⟩: ∃z∈D6 t a,z.af=w.af:=by
    apply Classical.byContradiction;intro hc;exact ho fun z hz e=>hc ⟨z,hz,e⟩
   have he:C4 t n z.af=true:=by rw [e,w2,P8 A.tab A.j9 Ed (by have:=A.lr;omega) A.lr.2];simp
   rcases A.eo (A.dh hz he)with⟨e1,k1,_⟩|⟨e1,k2,_⟩
   ·exfalso;have hk:Bv t n x.bj a.bq=Bv t n x.bj (B5 q):=by
     have:z.af=E5 t a x:=by rw [e1]
     rw [e,w2,A.ee k1,A.name]at this;exact this.symm
    have hp:=ztA A.tab A.j9 (A.old k1) Ed hk;obtain⟨u,u1,u2⟩:=A.fc k1;apply h2 u u1;rw [u2,Gf,IT,IT,hp]
   ·exact⟨z,(hB z).2 ⟨by rw [e1], .inl hz⟩,e.trans w2⟩
theorem Fl.ir (A:Fl t a n x) (hB:Qq t a st st') (hs:x.aq≤1) (h:Kv t n st f):Kv t n st' f:=by
 intro y hy he;obtain⟨Dp,h1|h1⟩:=(hB y).1 hy
 ·rcases A.eo (A.dh h1 he)with⟨e,_⟩|⟨_,_,k⟩
  ·rw [e]at Dp;cases Dp
  ·omega
 ·exact h y h1.1 he
theorem rS {ops:List Ay} (h:(Bg st ops).2=false):(Bg st ops).1=st:=by
 unfold Bg at h ⊢;split at h
 ·cases h
 ·rename_i q;rw [if_neg q]
theorem zBq (A:Fl t a n x) (hg:BZ st=true) (hs:2≤x.aq) (h:Kx t n x.bj st f):Kx t n x.bj (Bg st (D7 t a)).1 f:=by
 cases hd:(Bg st (D7 t a)).2 with
 |true=>exact A.jd (pW A.ov hg hd).2 (Eg hg).2 hs h
 |false=>rw [rS hd];exact h
theorem zyO (A:Fl t a n x) (hg:BZ st=true) (hs:x.aq≤1) (h:Kv t n st f):Kv t n (Bg st (D7 t a)).1 f:=by
 cases hd:(Bg st (D7 t a)).2 with
 |true=>exact A.ir (pW A.ov hg hd).2 hs h
 |false=>rw [rS hd];exact h
end
theorem cL {st:List Ac} {w:Ac} (hr:Da st) (y:Ac):y∈Dh st [w]↔(y=w∨y∈st∧y.af≠w.af)∧y.bh=false:=by unfold Dh;rw [List.mem_filter,List.foldl_cons,List.foldl_nil,Tb hr];simp
theorem zCZ {t:Ad} {x:At} {r:AD} {st:List Ac} (AZ:BZ st=true):
  (∀w∈st,∃w'∈(Bg st (Bu t x r).cj).1,w'.af=w.af)∧(∀w∈(Bg st (Bu t x r).cj).1,w∈st∨w.af=Bv t x.ab x.bj r)∧
   ((Bg st (Bu t x r).cj).2=true→ ∃w∈(Bg st (Bu t x r).cj).1,w.af=Bv t x.ab x.bj r):=by
 obtain⟨hr,hn⟩:=Eg AZ;have hR:=zxM (st:=st) (o:=⟨7,(AQ t r).af,(AQ t r).a7,0⟩) (rest:= [⟨2,Bv t x.ab x.bj r, [],0⟩]) (by simp) (by simp) (by simp);cases hd:(Bg st (Bu t x r).cj).2 with
 |false=>rw [rS hd];exact⟨fun w hw=>⟨w,hw,rfl⟩,fun w hw=> .inl hw,fun h=>by cases h⟩
 |true=>
  have e:(Bg st (Bu t x r).cj).1=Dh st [⟨Bv t x.ab x.bj r, [],false⟩]:=by
   unfold Bg at hd ⊢;split at hd
   ·rename_i q;rw [if_pos q];show Dh st (FC st [⟨7,(AQ t r).af,(AQ t r).a7,0⟩,⟨2,Bv t x.ab x.bj r, [],0⟩]).1=_;have q1:(FC st [⟨7,(AQ t r).af,(AQ t r).a7,0⟩,⟨2,Bv t x.ab x.bj r, [],0⟩]).2=true:=q.1;rw [hR]at q1 ⊢;split at q1
    ·rename_i q2;rw [if_pos q2];rfl
    ·cases q1
   ·cases hd
  rw [e];refine⟨fun w hw=> ?_,fun w hw=> ?_,fun _=>⟨⟨Bv t x.ab x.bj r, [],false⟩,(cL hr.cd _).2 ⟨.inl rfl,rfl⟩,rfl⟩⟩
  ·by_cases hk:w.af=Bv t x.ab x.bj r
   ·exact⟨⟨Bv t x.ab x.bj r, [],false⟩,(cL hr.cd _).2 ⟨.inl rfl,rfl⟩,hk.symm⟩
   ·exact⟨w,(cL hr.cd _).2 ⟨.inr ⟨hw,hk⟩,hn w hw⟩,rfl⟩
  ·rcases(cL hr.cd _).1 hw with⟨rfl|⟨h1,_⟩,_⟩
   ·exact .inr rfl
   ·exact .inl h1
theorem zuR {t:Ad} {x:At} (hg:A0 t=true) (hx:x∈t.ah): ∀(R:List AD) (m n:Nat) (st:List Ac) (last:Af),(∀r∈R,Bd t r=true)→BZ st=true→
  (∀w∈st,∃w'∈(A5 (R.map (Bu t x)) m n st last).1,w'.af=w.af)∧(∀w∈(A5 (R.map (Bu t x)) m n st last).1,w∈st∨ ∃r∈R,w.af=Bv t x.ab x.bj r)∧
   (∀(i:Nat) (h:i<R.length),n+i<(A5 (R.map (Bu t x)) m n st last).2.1→ ∃w∈(A5 (R.map (Bu t x)) m n st last).1,w.af=Bv t x.ab x.bj R[i])
 | [],m,n,st,last,_,_=>by simp only [List.map_nil,A5];exact⟨fun w hw=>⟨w,hw,rfl⟩,fun w hw=> .inl hw,fun i h=>by simp at h⟩
 |r::R,0,n,st,last,_,_=>by simp only [List.map_cons,A5];exact⟨fun w hw=>⟨w,hw,rfl⟩,fun w hw=> .inl hw,fun i h k=>by omega⟩
 |r::R,m+1,n,st,last,hR,AZ=>by
  obtain⟨s1,s2,s3⟩:=zCZ (t:=t) (x:=x) (r:=r) AZ;have ho:=WK hg hx (hR r (by simp));rw [List.map_cons];unfold A5;split
  ·rename_i hd;obtain⟨k1,k2,k3⟩:=zuR hg hx R m (n+1) (Bg st (Bu t x r).cj).1 (Bu t x r).bb (fun q hq=>hR q (by simp [hq])) (Mg ho.1 ho.2 AZ);refine⟨fun w hw=> ?_,fun w hw=> ?_,fun i h k=> ?_⟩
   ·obtain⟨w',h1,h2⟩:=s1 w hw;obtain⟨w2,h3,h4⟩:=k1 w' h1;exact⟨w2,h3,h4.trans h2⟩
   ·rcases k2 w hw with h|⟨q,hq,e⟩
    ·rcases s2 w h with h|h
     ·exact .inl h
     ·exact .inr ⟨r,by simp,h⟩
    ·exact .inr ⟨q,by simp [hq],e⟩
   ·cases i with
    |zero=>obtain⟨w',h1,h2⟩:=s3 hd;obtain⟨w2,h3,h4⟩:=k1 w' h1;exact⟨w2,h3,h4.trans h2⟩
    |succ i=>exact k3 i (by simpa using h) (by omega)
  ·refine⟨fun w hw=>⟨w,hw,rfl⟩,fun w hw=> .inl hw,fun i h k=> ?_⟩;simp only at k;omega
theorem Te {t:Ad} {st:List Ac} {r:AD}:r∈rows t st↔ ∃q∈st,Co t q=true∧B5 q=r:=by
 unfold rows;simp only [List.mem_map,List.mem_filter];constructor
 ·rintro⟨q,⟨h1,h2⟩,e⟩;exact⟨q,h1,h2,e⟩
 ·rintro⟨q,h1,h2,e⟩;exact⟨q,⟨h1,h2⟩,e⟩
theorem dD {t:Ad} {st st':List Ac} (h:rows t st=rows t st') {q:Ac} (hq:q∈st) (hr:Co t q=true):q∈st':=by
 have h1:B5 q∈rows t st:=Te.2 ⟨q,hq,hr,rfl⟩;rw [h]at h1;obtain⟨p,hp,h2,e⟩:=Te.1 h1;have:p=q:=by rw [(Fw h2).2,(Fw hr).2,e]
 rw [←this];exact hp
structure zH (t:Ad) (n:Af) (x:At) (st:List Ac) (f:AL) (r:List Ac × AL):Prop where
 rows:rows t r.1=rows t st
 grow: ∀w∈st,∃w'∈r.1,w'.af=w.af
 back: ∀w∈r.1,w∈st∨ ∃q∈st,Co t q=true∧w.af=Bv t n x.bj (B5 q)
 filled:Kx t n x.bj st f→Kx t n x.bj r.1 r.2
theorem zuL {t:Ad} {n:Af} {x:At} {st:List Ac} {f:AL} {m:Nat} (hg:A0 t=true) (hx:x∈t.ah) (Pj:x.ab=n) (AZ:BZ st=true):
  zH t n x st f (Lg ((rows t st).map (Bu t x)) f m st):=by
 unfold Lg;have hR:=(Eg AZ).1;have FR: ∀r∈rows t st,Bd t r=true:=fun r h=>Kn h;have Cc:=(zuS (t:=t) (x:=x) hR.cd).filter fun k=>behind f.al k.bb;have hb: ∀k∈((rows t st).map (Bu t x)).filter (fun k=>behind f.al k.bb),bl f.al k.bb=true:=fun k hk=>by rw [←Jr];simpa using(List.mem_filter.1 hk).2
 have e:((rows t st).map (Bu t x)).filter (fun k=>behind f.al k.bb)=((rows t st).filter fun r=>behind f.al (AQ t r).af).map (Bu t x):=by rw [List.filter_map];rfl
 rw [e]at Cc hb ⊢;have Xy: ∀r∈(rows t st).filter (fun r=>behind f.al (AQ t r).af),r∈rows t st:=fun r hr=>(List.mem_filter.1 hr).1;have uC: ∀r∈rows t st,behind f.al (AQ t r).af=true→r∈(rows t st).filter (fun r=>behind f.al (AQ t r).af):=fun r hr h=>List.mem_filter.2 ⟨hr,h⟩;generalize (rows t st).filter (fun r=>behind f.al (AQ t r).af)=R at Cc hb Xy uC;have hk:=zuR hg hx R m 0 st f.al (fun r hr=>FR r (Xy r hr)) AZ;have QY:=qG hg hx R m 0 st f.al (fun r hr=>FR r (Xy r hr)) AZ;have hl:=aT (R.map (Bu t x)) m 0 st f.al Cc hb;generalize A5 (R.map (Bu t x)) m 0 st f.al=p at hk QY hl;obtain⟨k1,k2,k3⟩:=hk;refine⟨QY,k1,fun w hw=> ?_,fun hF q hq hr hf=> ?_⟩
 ·rcases k2 w hw with h|⟨r,hr,e⟩
  ·exact .inl h
  ·obtain⟨q,h1,h2,rfl⟩:=Te.1 (Xy r hr);exact .inr ⟨q,h1,h2,by rw [e,Pj]⟩
 ·have QX:=dD QY hq hr;have hold:(f.bg=true∨behind f.al q.af=false)→ ∃w∈p.1,w.af=Bv t n x.bj (B5 q):=fun h=>by
   obtain⟨w,h1,h2⟩:=hF q QX hr h;obtain⟨w',h3,h4⟩:=k1 w h1;exact⟨w',h3,h4.trans h2⟩
  cases XG:behind f.al q.af with
  |false=>exact hold (.inr XG)
  |true=>
   have hqr:B5 q∈R:=uC _ (Te.2 ⟨q,QX,hr,rfl⟩) (by rw [←(Fw hr).2];exact XG);obtain⟨i,hi,ei⟩:=List.getElem_of_mem hqr;have Cr:=hl i (by rw [List.length_map];exact hi);rw [List.getElem_map,ei,Nat.zero_add]at Cr;have ekey:(Bu t x (B5 q)).bb=q.af:=by show(AQ t (B5 q)).af=q.af;rw [←(Fw hr).2]
   rw [ekey,←Jr]at Cr;rcases hf with h|h
   ·dsimp only at h;rw [Bool.or_eq_true]at h;rcases h with h|h
    ·exact hold (.inl h)
    ·rw [beq_iff_eq,List.length_map]at h;obtain⟨w,h1,h2⟩:=k3 i hi (by omega);exact⟨w,h1,by rw [h2,ei,Pj]⟩
   ·dsimp only at h;rw [Cr,decide_eq_false_iff_not]at h;obtain⟨w,h1,h2⟩:=k3 i hi (by omega);exact⟨w,h1,by rw [h2,ei,Pj]⟩
theorem zBi {t:Ad} {n k:Af} {st:List Ac} (AZ:BZ st=true) (hg:A0 t=true) (hk:C4 t n k=true):rows t (Bg st (BT k).cj).1=rows t st:=by
 have hd:=bE (k:=k) AZ;have hR:=Eg AZ;unfold Bg at hd ⊢;split at hd
 ·rename_i h;rw [if_pos h,rF];unfold Dh rows;rw [List.foldl_cons,List.foldl_nil,sN hR.1.cd hR.2,List.filter_filter];congr 1;apply List.filter_congr;intro y _;cases hy:Co t y with
  |false=>rfl
  |true=>rw [Bool.true_and,bne_iff_ne];intro e;obtain⟨h1,h2⟩:=Fw hy;rw [←e,h2,zwY hg h1]at hk;cases hk
 ·cases hd
theorem zsV {t:Ad} {nm:Af} (hg:A0 t=true): ∀(K:List Af) (m n:Nat) (st:List Ac) (last:Af),(∀k∈K,An k=true∧C4 t nm k=true)→BZ st=true→rows t (A5 (K.map BT) m n st last).1=rows t st
 | [],m,n,st,last,_,_=>by simp [A5]
 |k::K,0,n,st,last,_,_=>by simp [A5]
 |k::K,m+1,n,st,last,hk,AZ=>by
  rw [List.map_cons];unfold A5;split
  ·have ho:=WA (hk k (by simp)).1;rw [zsV hg K m (n+1) _ _ (fun q hq=>hk q (by simp [hq])) (Mg ho.1 ho.2 AZ)];exact zBi AZ hg (hk k (by simp)).2
  ·rfl
structure x6 (t:Ad) (n:Af) (st:List Ac) (f:AL) (r:List Ac × AL):Prop where
 rows:rows t r.1=rows t st
 less: ∀k∈Be t n r.1,k∈Be t n st
 ju:Kv t n st f→Kv t n r.1 r.2
theorem ztk {t:Ad} {n:Af} {st:List Ac} {f:AL} {m:Nat} (hg:A0 t=true) (AZ:BZ st=true):
  x6 t n st f (Lg ((Be t n st).map BT) f m st):=by
 unfold Lg;have hR:=(Eg AZ).1;have QI:=aB (t:=t) (n:=n) AZ;have Cc:=(zsx (t:=t) (n:=n) hR.cd).filter fun k=>behind f.al k.bb;have hb: ∀k∈((Be t n st).map BT).filter (fun k=>behind f.al k.bb),bl f.al k.bb=true:=fun k hk=>by rw [←Jr];simpa using(List.mem_filter.1 hk).2
 have e:((Be t n st).map BT).filter (fun k=>behind f.al k.bb)=((Be t n st).filter fun k=>behind f.al k).map BT:=by rw [List.filter_map];rfl
 rw [e]at Cc hb ⊢;have dW: ∀k∈(Be t n st).filter (fun k=>behind f.al k),k∈Be t n st:=fun r hr=>(List.mem_filter.1 hr).1;have tY: ∀k∈Be t n st,behind f.al k=true→k∈(Be t n st).filter (fun k=>behind f.al k):=fun r hr h=>List.mem_filter.2 ⟨hr,h⟩;generalize (Be t n st).filter (fun k=>behind f.al k)=K at Cc hb dW tY;have tZ: ∀k∈K,An k=true∧C4 t n k=true:=fun k hk=>by refine⟨QI k (dW k hk), ?_⟩;obtain⟨w,_,h2,e⟩:=GN.1 (dW k hk);rw [e];exact h2
 obtain⟨p,e1,e2,e3,e4⟩:=nS (t:=t) (nm:=n) K m 0 st f.al Cc (fun q hq=>hb (BT q) (List.mem_map.2 ⟨q,hq,rfl⟩)) (fun q hq=>(tZ q hq).1) AZ;have QY:=zsV (nm:=n) hg K m 0 st f.al tZ AZ;have hl:=aT (K.map BT) m 0 st f.al Cc hb;generalize A5 (K.map BT) m 0 st f.al=pc at e1 e2 e4 QY hl;refine⟨QY,fun k hk=> ?_,fun hC w hw he=> ?_⟩
 ·dsimp only at hk;rw [e1]at hk;exact(List.mem_filter.1 hk).1
 ·have XW:w.af∈Be t n pc.1:=GN.2 ⟨w,hw,he,rfl⟩;rw [e1,List.mem_filter]at XW;obtain⟨w0,KK,h2,ek⟩:=GN.1 XW.1;obtain⟨c1,c2⟩:=hC w0 KK h2;rw [←ek]at c2;have Q0:=tY _ XW.1 c2;have XF:=e4 _ Q0 XW.2;obtain⟨i,hi,ei⟩:=List.getElem_of_mem Q0;have Cr:=hl i (by rw [List.length_map];exact hi);rw [List.getElem_map,Nat.zero_add]at Cr;rw [show(BT K[i]).bb=K[i]from rfl,ei,XF]at Cr;have Cr:=of_decide_eq_true Cr.symm;dsimp only;refine⟨?_,by rw [Jr];exact XF⟩;rw [c1,Bool.false_or,beq_eq_false_iff_ne,List.length_map];omega
theorem zFv {t:Ad} {n:Af} {x:At} {st:List Ac} (hg:A0 t=true) (hx:x∈t.ah) (hn:x.ab=n):(∀k∈wanted t n x st,k∈Be t n st)↔MH t n x st:=by
 have hl:CG n 1=true:=by rw [←hn];exact(Ey hg hx).1
 have hc:=B7.1 (Ey hg hx).2;constructor
 ·intro h q hq hr;obtain⟨w,hw,_,e⟩:=GN.1 (h _ (P5.2 ⟨q,hq,hr,rfl⟩));exact⟨w,hw,e.symm⟩
 ·intro h k hk;obtain⟨q,hq,hr,rfl⟩:=P5.1 hk;obtain⟨w,hw,e⟩:=h q hq hr;refine GN.2 ⟨w,hw, ?_,e.symm⟩;rw [e,P8 hg hl (Fw hr).1 (by omega) hc.2];simp
theorem zvj {t:Ad} {n:Af} {x:At} {st:List Ac} (hg:A0 t=true) (hx:x∈t.ah) (hn:x.ab=n):holds t n x 2 st=true↔MI t n x st∧MH t n x st:=by rw [←tP,←zFv hg hx hn,←WE,←WE];unfold holds;rw [if_neg (by decide)];simp
theorem zA7 {t:Ad} {n:Af} {x:At} {st:List Ac} {f:AL} {r:List Ac × AL} {low:Int} (hg:A0 t=true) (hx:x∈t.ah) (hn:x.ab=n) (h:zH t n x st f r) (hl:low=1∨low=2) (hh:holds t n x low st=true):holds t n x low r.1=true:=by
 have hO:MI t n x st→MI t n x r.1:=fun h0 w hw he=>by
  have mv: ∀q∈st,Co t q=true→q∈r.1:=fun q hq hr=>dD h.rows.symm hq hr;rcases h.back w hw with h1|⟨q,h1,h2,e⟩
  ·obtain⟨q,q1,q2,q3⟩:=h0 w h1 he;exact⟨q,mv q q1 q2,q2,q3⟩
  ·exact⟨q,mv q h1 h2,h2,e⟩
 have hL:MH t n x st→MH t n x r.1:=fun h0 q hq hr=>by obtain⟨w,w1,w2⟩:=h0 q (dD h.rows hq hr) hr;obtain⟨w',h3,h4⟩:=h.grow w w1;exact⟨w',h3,h4.trans w2⟩
 rcases hl with rfl|rfl
 ·exact S7.2 (hO (S7.1 hh))
 ·have h2:=(zvj hg hx hn).1 hh;exact(zvj hg hx hn).2 ⟨hO h2.1,hL h2.2⟩
theorem zzy {t:Ad} {n:Af} {x:At} {st:List Ac} {f:AL} {r:List Ac × AL} {low:Int} (h:x6 t n st f r) (hl:low=0∨low=1) (hh:holds t n x low st=true):holds t n x low r.1=true:=by
 rcases hl with rfl|rfl
 ·refine bP.2 fun w hw=> ?_;have h0:=bP.1 hh;cases he:C4 t n w.af with
  |false=>rfl
  |true=>obtain⟨w0,KK,h2,_⟩:=GN.1 (h.less _ (GN.2 ⟨w,hw,he,rfl⟩));rw [h0 w0 KK]at h2;cases h2
 ·refine S7.2 fun w hw he=> ?_;obtain⟨w0,KK,h2,e⟩:=GN.1 (h.less _ (GN.2 ⟨w,hw,he,rfl⟩));obtain⟨q,q1,q2,q3⟩:=S7.1 hh w0 KK h2;exact⟨q,dD h.rows.symm q1 q2,q2,e.trans q3⟩
def FP (f:AL):Bool:=f.al== []||An f.al
theorem wC {f:AL} (h:f.al.length≤2000000):VT f=some (FP f):=by
 unfold VT FP;by_cases h0:(f.al==([]:Af))=true
 ·rw [if_pos h0,h0];rfl
 ·rw [if_neg h0,jJ h,Aa];rw [Bool.not_eq_true]at h0;rw [h0];rfl
theorem vJ {f:AL} (h:f.al.length≤2000000):VQ f=some (FP f):=by
 unfold VQ FP;by_cases h0:(f.al==([]:Af))=true
 ·rw [if_pos h0,h0];rfl
 ·rw [if_neg h0,yT h,Aa];rw [Bool.not_eq_true]at h0;rw [h0];rfl
theorem zyd {f:AL} (h:FP f=true):f.al.length≤12:=by
 unfold FP at h;rw [Bool.or_eq_true]at h;rcases h with h|h
 ·rw [beq_iff_eq]at h;rw [h];simp
 ·exact S3 h
structure G8 (w:AI):Prop where
 shift:DS w.ae
 up:w.cx.al.length≤2000000
 down:w.bf.al.length≤2000000
structure Lk (w:AI):Prop where
 shift:BR w.ae
 up:FP w.cx=true
 down:FP w.bf=true
theorem pR {w:AI} (hS:G8 w): ∃g,KT w=some g∧L3 w=some g∧(g=true↔Lk w):=by
 obtain⟨g1,e1,f1⟩:=s7 hS.shift;obtain⟨g2,e2,f2⟩:=s5 hS.shift;have hg:g1=g2:=by rw [Bool.eq_iff_iff,f1,f2]
 subst hg;refine⟨g1&&(FP w.cx&&FP w.bf), ?_, ?_, ?_⟩
 ·unfold KT;rw [e1,Aa,wC hS.up,wC hS.down];cases g1<;>cases FP w.cx<;>rfl
 ·unfold L3;rw [e2,Aa,vJ hS.up,vJ hS.down];cases g1<;>cases FP w.cx<;>rfl
 ·simp only [Ae];exact⟨fun h=>⟨f1.1 h.1,h.2.1,h.2.2⟩,fun h=>⟨f1.2 h.shift,h.up,h.down⟩⟩
structure kQ (w:AI) (a:CR):Prop where
 ok:a.aj=1∧IK w.ae a.ay∨(a.aj=2∨a.aj=3)∧1≤a.b8∧a.b8≤24
def Mr (w:AI) (a:CR):Bool:=
 if a.aj=1 then a.b8==0&&Qb w.ae (EA w.ae a.ay.a6) a.ay else
 if a.aj=2∨a.aj=3 then BP a.b8 1 24&&((a.ay.a6==0)&&((a.ay.bd==0)&&bare a.ay.ay))else false
theorem yC {a:CR} {v:Bool}:Zf a v=some (v&&(BP a.b8 1 24&&((a.ay.a6==0)&&((a.ay.bd==0)&&bare a.ay.ay)))):=by have em:nR a.b8=some (BP a.b8 1 24):=rfl;have eb:ZN a.ay.ay=some (bare a.ay.ay):=rfl;unfold Zf;rw [em,eb,Aa,Aa];cases v<;>cases BP a.b8 1 24<;>cases(a.ay.a6==0)<;>cases(a.ay.bd==0)<;>rfl
theorem zCw {w:AI} {a:CR} (hg:BR w.ae) (hA:F9 a.ay.ay):ZG w a=some (Mr w a):=by
 have e:=zAL (a:=a.ay) hg hA;unfold ZG Mr;by_cases h1:a.aj=1
 ·rw [if_pos (by simpa using h1),if_pos h1,e,Aa];cases hm:(a.b8==0)<;>rfl
 ·rw [if_neg (by simpa using h1),if_neg h1];by_cases h2:a.aj=2
  ·rw [if_pos (by simpa using h2),if_pos (.inl h2),yC,h2];rfl
  ·rw [if_neg (by simpa using h2),yC];by_cases h3:a.aj=3
   ·rw [if_pos (.inr h3),h3];rfl
   ·rw [if_neg (by simp [h2,h3]),show(a.aj==3)=false by simpa using h3];rfl
theorem yM {a:CR} {v:Bool}:YB a v=some (v&&(BP a.b8 1 24&&((a.ay.a6==0)&&((a.ay.bd==0)&&bare a.ay.ay)))):=by have em:G6 a.b8 1 24=some (BP a.b8 1 24):=rfl;have eb:V9 a.ay.ay=some (bare a.ay.ay):=rfl;unfold YB;rw [em,eb,Aa,Aa];cases v<;>cases BP a.b8 1 24<;>cases(a.ay.a6==0)<;>cases(a.ay.bd==0)<;>rfl
theorem zCM {w:AI} {a:CR} (hg:BR w.ae) (hA:F9 a.ay.ay):YF w a=some (Mr w a):=by
 have e:=zBt (a:=a.ay) hg hA;unfold YF Mr;by_cases h1:a.aj=1
 ·rw [if_pos (by simpa using h1),if_pos h1,e,Aa];cases hm:(a.b8==0)<;>rfl
 ·rw [if_neg (by simpa using h1),if_neg h1];by_cases h2:a.aj=2
  ·rw [if_pos (by simpa using h2),if_pos (.inl h2),yM,h2];rfl
  ·rw [if_neg (by simpa using h2),yM];by_cases h3:a.aj=3
   ·rw [if_pos (.inr h3),h3];rfl
   ·rw [if_neg (by simp [h2,h3]),show(a.aj==3)=false by simpa using h3];rfl
theorem zG7 {w:AI} {a:CR} (hg:BR w.ae) (h:Mr w a=true):kQ w a:=by
 unfold Mr at h;by_cases h1:a.aj=1
 ·rw [if_pos h1,Ae]at h;exact⟨.inl ⟨h1,zIt hg h.2⟩⟩
 ·rw [if_neg h1]at h;by_cases h2:a.aj=2∨a.aj=3
  ·rw [if_pos h2,Ae]at h;have:=B7.1 h.1;exact⟨.inr ⟨h2,this⟩⟩
  ·rw [if_neg h2]at h;cases h
theorem zuJ {s:Au} (hS:DS s) (hg:BR s):L6 s=some (CS s):=by
 obtain⟨h1,h4,hA,_,h3,hB,hR⟩:=hg;have h3:=B7.1 h3;have AZ: ∀y∈s.bp,∃tb x,getI s.ak y=some tb∧tb∈s.ak∧EK tb s.ab x∧BD tb s.ab=x.aq:=fun y hy=>by obtain⟨tb,q1,q2,_⟩:=IX (hB y hy).1 (by have:=(hB y hy).2;omega:y<s.ak.length);obtain⟨x,q3,q4,_⟩:=Kt (hA tb q2);exact⟨tb,x,q1,q2,q3,q4⟩
 have hn:(CS s).length=s.bp.length:=by simp [CS]
 have hl:(CS s).length≤2000000:=by have:=hS.at_;omega
 refine zxC (s:=s) (st:=CS s) hn hl fun i hi=> ?_;have EF:i<s.bp.length:=by omega
 obtain⟨tb,x,q1,q2,q3,q4⟩:=AZ _ (List.getElem_mem EF);refine⟨s.bp[i],tb,_,x,AN EF,q1,Jx (hS.way _ q2),q3.at_, ?_⟩;simp only [CS,List.getElem_map,q1,Option.getD_some,q4]
theorem zHH {w:AI} (hS:DS w.ae) (hg:BR w.ae):RA w=some (((CS w.ae).filter fun y=>decide (y≥2)).length:Int):=by
 obtain⟨h1,h4,hA,_,h3,hB,hR⟩:=hg;have h3:=B7.1 h3;have AZ: ∀y∈w.ae.bp,∃tb x,getI w.ae.ak y=some tb∧tb∈w.ae.ak∧EK tb w.ae.ab x∧BD tb w.ae.ab=x.aq:=fun y hy=>by obtain⟨tb,q1,q2,_⟩:=IX (hB y hy).1 (by have:=(hB y hy).2;omega:y<w.ae.ak.length);obtain⟨x,q3,q4,_⟩:=Kt (hA tb q2);exact⟨tb,x,q1,q2,q3,q4⟩
 have hn:(CS w.ae).length=w.ae.bp.length:=by simp [CS]
 have hl:(CS w.ae).length≤2000000:=by have:=hS.at_;omega
 refine zIJ (w:=w) (st:=CS w.ae) hn hl fun i hi=> ?_;have EF:i<w.ae.bp.length:=by omega
 obtain⟨tb,x,q1,q2,q3,q4⟩:=AZ _ (List.getElem_mem EF);refine⟨tb, ?_, ?_⟩
 ·unfold GL;rw [AN EF,Aa,q1,Aa]
 ·rw [cQ (hS.way _ q2) q3];simp only [CS,List.getElem_map,q1,Option.getD_some,q4]
theorem zI3 {s:Au} (hS:DS s) (hg:BR s) {i:Int} (h:0≤i∧i≤(s.bp.length:Int)-1):GL s i=some (EA s i)∧Ki s (EA s i)=some (BD (EA s i) s.ab)∧getI (CS s) i=some (BD (EA s i) s.ab)∧EA s i∈s.ak∧BD (EA s i) s.ab∈CS s:=by
 obtain⟨y,t,e1,e2,ht,_,_⟩:=TB hg h;have et:EA s i=t:=by unfold EA;rw [e1,Option.getD_some,e2];rfl
 rw [et];obtain⟨x,q3,q4,_⟩:=Kt (hg.2.2.1 t ht);obtain⟨k,rfl⟩:=Int.eq_ofNat_of_zero_le h.1;have hk:k<s.bp.length:=by omega
 have ey:s.bp[k]=y:=by rw [AN hk]at e1;exact Option.some.inj e1
 have Jg:k<(CS s).length:=by simp only [CS,List.length_map];exact hk
 have e5:(CS s)[k]=BD t s.ab:=by simp only [CS,List.getElem_map,ey,e2,Option.getD_some]
 refine⟨?_, ?_, ?_,ht, ?_⟩
 ·unfold GL;rw [e1,Aa,e2];rfl
 ·rw [cQ (hS.way _ ht) q3,q4]
 ·rw [AN Jg,e5]
 ·rw [←e5];exact List.getElem_mem Jg
theorem xJ (p:Int→Bool): ∀l:List Int,(((l.filter p).length:Int)==(l.length:Int))=l.all p
 | []=>rfl
 |y::l=>by
  have ih:=xJ p l;have hle:=List.length_filter_le p l;rw [List.all_cons,←ih,Bool.eq_iff_iff,List.filter_cons];cases hp:p y with
  |true=>simp only [if_true,Ao,beq_iff_eq,Bool.true_and];omega
  |false=>simp only [AX,if_false,Ao,beq_iff_eq,Bool.false_and,iff_false];omega
theorem wY (p:Int→Bool): ∀l:List Int,(((l.filter p).length:Int)==0)= !l.any p
 | []=>rfl
 |y::l=>by
  have ih:=wY p l;rw [List.any_cons,Bool.not_or,←ih,Bool.eq_iff_iff,List.filter_cons];cases hp:p y with
  |true=>simp only [if_true,Ao,beq_iff_eq,Bool.not_true,Bool.false_and,AX,iff_false];omega
  |false=>simp only [AX,if_false,Bool.not_false,Bool.true_and]
def Gc:AL:=⟨[],false⟩
def jZ (w:AI) (m:Nat):List Ac × AL:=Lg ((rows (AM w.ae) w.ae.ao).map (Bu (AM w.ae) (Du (AM w.ae) w.ae.ab))) w.cx m w.ae.ao
def jS (w:AI) (m:Nat):List Ac × AL:=Lg ((Be (AM w.ae) w.ae.ab w.ae.ao).map BT) w.bf m w.ae.ao
def Nr (s:Au) (l:List Ac):Au:=⟨s.ab,s.ak,s.bp,l⟩
inductive I9 (w:AI) (a:CR):AI × Bool→Prop
 |stay:I9 w a (w,false)
 |move (q:Au) (h1:a.aj=1) (h0:a.ay.bd≠0) (ha:IK w.ae a.ay) (hd:G5 w.ae a.ay=some (q,true)) (hm:P0 w.ae a.ay=some true):I9 w a (⟨q,w.cx,w.bf⟩,true)
 |pg (q:Au) (h1:a.aj=1) (h0:a.ay.bd=0) (ha:IK w.ae a.ay) (hd:G5 w.ae a.ay=some (q,true)) (hs:BD (EA w.ae a.ay.a6) w.ae.ab≥2):I9 w a (⟨q,w.cx,Gc⟩,true)
 |none (q:Au) (h1:a.aj=1) (h0:a.ay.bd=0) (ha:IK w.ae a.ay) (hd:G5 w.ae a.ay=some (q,true)) (hs: ¬BD (EA w.ae a.ay.a6) w.ae.ab≥2):I9 w a (⟨q,Gc,w.bf⟩,true)
 |fill (h2:a.aj=2) (hs:((CS w.ae).all fun y=>decide (y≥2))=true):I9 w a (⟨Nr w.ae (jZ w a.b8.toNat).1,(jZ w a.b8.toNat).2,Gc⟩,true)
 |clear (h3:a.aj=3) (hs:((CS w.ae).any fun y=>decide (y≥2))=false):I9 w a (⟨Nr w.ae (jS w a.b8.toNat).1,Gc,(jS w a.b8.toNat).2⟩,true)
structure JD (w r:AI):Prop where
 shift:Lm w.ae r.ae
 up:FP w.cx=true→FP r.cx=true
 down:FP w.bf=true→FP r.bf=true
 pn:r.cx.al.length≤w.cx.al.length+12
 o8:r.bf.al.length≤w.bf.al.length+12
theorem JD.refl {w:AI} (hS:G8 w) (hg:BR w.ae):JD w w:=⟨⟨hg,hS.shift,rfl,rfl,rfl⟩,fun h=>h,fun h=>h,by omega,by omega⟩
theorem bG:FP Gc=true:=rfl
theorem zxA {s:Au} {l:List Ac} (hS:DS s) (hg:BR s) (hl:BZ l=true):Lm s (Nr s l):=by have hr:=(Eg hl).1;have J3:=hr.len;exact⟨⟨hg.1,hg.2.1,hg.2.2.1,hg.2.2.2.1,hg.2.2.2.2.1,hg.2.2.2.2.2.1,hl⟩,⟨hS.name,hS.ways,hS.way,hS.at_,aN (by show l.length≤2000000;omega) hr.bu⟩,rfl,rfl,rfl⟩
theorem zw4 {f:AL} {k:Af} {b:Bool} (h:k=f.al∨An k=true):(FP f=true→FP ⟨k,b⟩=true)∧k.length≤f.al.length+12:=by
 rcases h with rfl|h
 ·exact⟨fun g=>g,by omega⟩
 ·refine⟨fun _=> ?_,by have:=S3 h;omega⟩;unfold FP;dsimp only;rw [h,Bool.or_true]
theorem zGG {w:AI} (hS:G8 w):aG w=some w:=by unfold aG;rw [W0 hS.shift];rfl
theorem zzN {w:AI} (hS:G8 w):V0 w=some w:=by unfold V0;rw [zzE hS.shift];rfl
theorem zD9 {w:AI} {a:CR} (hS:G8 w) (hg:BR w.ae) (hA:F9 a.ay.ay) (k1:a.aj=1) (B9:IK w.ae a.ay): ∃r:AI × Bool,L8 w a.ay=some r∧L2 w a.ay=some r∧I9 w a r∧JD w r.1:=by
 obtain⟨⟨q,b⟩,d1,d2,hn⟩:=P9 hS.shift hg hA B9;obtain⟨t1,t2,t3,t4,t5⟩:=zI3 hS.shift hg B9.srv;have AZ:=zuJ hS.shift hg;have EX:NG (BD (EA w.ae a.ay.a6) w.ae.ab)=some (decide (BD (EA w.ae a.ay.a6) w.ae.ab≥2)):=rfl;have hc:=zzN hS;by_cases h0:a.ay.bd=0
 ·have hb:(a.ay.bd==0)=true:=by simpa using h0
  cases b with
  |false=>
   refine⟨(w,false), ?_, ?_, .stay, .refl hS hg⟩
   ·unfold L8;simp only [bne,hb,Bool.not_true,Bool.not_false,AX,if_false,if_true,AZ,t3,d1,Aa]
   ·unfold L2;simp only [bne,hb,hc,Bool.not_true,Bool.not_false,AX,if_false,if_true,d2,Aa]
  |true=>
   cases hd:decide (BD (EA w.ae a.ay.a6) w.ae.ab≥2)with
   |true=>
    rw [hd]at EX;refine⟨(⟨q,w.cx,Gc⟩,true), ?_, ?_, .pg q k1 h0 B9 d1 (of_decide_eq_true hd),⟨hn,fun h=>h,fun _=>bG,by dsimp only;omega,by simp [Gc]⟩⟩
    ·unfold L8;simp only [bne,hb,hd,Bool.not_true,AX,if_false,if_true,AZ,t3,d1,Aa,Bool.and_self];rfl
    ·unfold L2;simp only [bne,hb,hc,EX,t1,t2,Bool.not_true,AX,if_false,if_true,d2,Aa];rfl
   |false=>
    rw [hd]at EX;refine⟨(⟨q,Gc,w.bf⟩,true), ?_, ?_, .none q k1 h0 B9 d1 (of_decide_eq_false hd),⟨hn,fun _=>bG,fun h=>h,by simp [Gc],by dsimp only;omega⟩⟩
    ·unfold L8;simp only [bne,hb,hd,Bool.not_true,AX,if_false,if_true,AZ,t3,d1,Aa,Bool.and_false];rfl
    ·unfold L2;simp only [bne,hb,hc,EX,t1,t2,Bool.not_true,AX,if_false,if_true,d2,Aa];rfl
 ·have hb:(a.ay.bd==0)=false:=by simpa using h0
  obtain⟨m,m1,m2⟩:=zEK hS.shift hg hA B9;cases m with
  |false=>
   refine⟨(w,false), ?_, ?_, .stay, .refl hS hg⟩
   ·unfold L8;simp only [bne,hb,m1,Bool.not_false,if_true,Aa]
   ·unfold L2;simp only [bne,hb,hc,m2,Bool.not_false,if_true,Aa]
  |true=>
   cases b with
   |false=>
    refine⟨(w,false), ?_, ?_, .stay, .refl hS hg⟩
    ·unfold L8;simp only [bne,hb,m1,Bool.not_false,Bool.not_true,AX,if_false,if_true,AZ,t3,d1,Aa]
    ·unfold L2;simp only [bne,hb,hc,m2,Bool.not_false,Bool.not_true,AX,if_false,if_true,d2,Aa]
   |true=>
    refine⟨(⟨q,w.cx,w.bf⟩,true), ?_, ?_, .move q k1 h0 B9 d1 m1,⟨hn,fun h=>h,fun h=>h,by dsimp only;omega,by dsimp only;omega⟩⟩
    ·unfold L8;simp only [bne,hb,m1,Bool.not_false,Bool.not_true,AX,if_false,if_true,AZ,t3,d1,Aa,Bool.false_and]
    ·unfold L2;simp only [bne,hb,hc,m2,Bool.not_false,Bool.not_true,AX,if_false,if_true,d2,Aa]
theorem zBh {w:AI} {a:CR} (hS:G8 w) (hg:BR w.ae) (hA:F9 a.ay.ay) (ha:kQ w a): ∃r:AI × Bool,NJ w a=some r∧NF w a=some r∧I9 w a r∧JD w r.1:=by
 have hln:(CS w.ae).length=w.ae.bp.length:=by simp [CS]
 have hp:=zGU (zuJ hS.shift hg) (by have:=hS.shift.at_;omega);have hh:=zHH (w:=w) hS.shift hg;have h0:=(Kp (s:=w.ae) hg.1).1;have fI:=Fg (first_has' hg);obtain⟨_,_,n1,n2,n3⟩:=dH (first_has' hg);have hR:=hg.2.2.2.2.2.2;have hc:=zzN hS;rcases ha.ok with⟨k1,B9⟩|⟨hk,m1,m2⟩
 ·obtain⟨r,e1,e2,e3,e4⟩:=zD9 hS hg hA k1 B9;have kb:(a.aj==1)=true:=by simpa using k1
  refine⟨r, ?_, ?_,e3,e4⟩
  ·unfold NJ;simp only [hp,kb,if_true,e1,Aa]
  ·unfold NF;simp only [kb,if_true,e2,Aa]
 ·have k1:(a.aj==1)=false:=by
   rw [beq_eq_false_iff_ne];rcases hk with h|h<;>omega
  rcases hk with hk|hk
  ·have k2:(a.aj==2)=true:=by simpa using hk
   have k3:(a.aj==3)=false:=by rw [beq_eq_false_iff_ne];omega
   have hq:=xJ (fun y=>decide (y≥2)) (CS w.ae);rw [hln]at hq;cases Cj:(CS w.ae).all fun y=>decide (y≥2)with
   |true=>
    rw [Cj]at hp hq;obtain⟨v,f1,f2,f3,f4,f5⟩:=zDR (f:=w.cx) (many:=a.b8) fI.2.2.2.2.2 fI.1 fI.2.2.1 fI.1.name (by omega) n1 hR m1 m2;obtain⟨z,z1,z2⟩:=It f2;have hl:=zw4 (b:=v.2.bg) f4;refine⟨(⟨Nr w.ae v.1,v.2,Gc⟩,true), ?_, ?_, ?_,⟨zxA hS.shift hg f3,hl.1,fun _=>bG,hl.2,by simp [Gc]⟩⟩
    ·unfold NJ;simp only [hp,k1,k2,Bool.and_self,AX,if_false,if_true,h0,f1,Aa];rfl
    ·unfold NF;simp only [hc,k1,k2,hh,hq,AX,if_false,if_true,h0,z1,z2,Aa];rfl
    ·rw [f5];exact .fill hk Cj
   |false=>
    rw [Cj]at hp hq;refine⟨(w,false), ?_, ?_, .stay, .refl hS hg⟩
    ·unfold NJ;simp only [hp,k1,k2,k3,Bool.and_false,Bool.false_and,AX,if_false,Aa]
    ·unfold NF;simp only [hc,k1,k2,k3,hh,hq,AX,if_false,if_true,Aa]
  ·have k2:(a.aj==2)=false:=by rw [beq_eq_false_iff_ne];omega
   have k3:(a.aj==3)=true:=by simpa using hk
   have hq:=wY (fun y=>decide (y≥2)) (CS w.ae);cases FV:(CS w.ae).any fun y=>decide (y≥2)with
   |false=>
    rw [FV]at hp hq;obtain⟨v,f1,f2,f3,f4,f5⟩:=zAK (f:=w.bf) (many:=a.b8) fI.2.2.2.2.2 (by omega) n3 hR m1 m2;obtain⟨z,z1,z2⟩:=It f2;have hl:=zw4 (b:=v.2.bg) f4;refine⟨(⟨Nr w.ae v.1,Gc,v.2⟩,true), ?_, ?_, ?_,⟨zxA hS.shift hg f3,fun _=>bG,hl.1,by simp [Gc],hl.2⟩⟩
    ·unfold NJ;simp only [hp,k1,k2,k3,Bool.false_and,Bool.not_false,Bool.and_self,AX,if_false,if_true,h0,f1,Aa];rfl
    ·unfold NF;simp only [hc,k1,k2,k3,hh,hq,Bool.not_false,AX,if_false,if_true,h0,z1,z2,Aa];rfl
    ·rw [f5];exact .clear hk FV
   |true=>
    rw [FV]at hp hq;refine⟨(w,false), ?_, ?_, .stay, .refl hS hg⟩
    ·unfold NJ;simp only [hp,k1,k2,k3,Bool.false_and,Bool.not_true,Bool.and_false,AX,if_false,Aa]
    ·unfold NF;simp only [hc,k1,k2,k3,hh,hq,Bool.not_true,AX,if_false,if_true,Aa]
where
 first_has' {s:Au} (hg:BR s):B6 (AM s) s.ab=true:=hg.2.2.1 _ (Kp (s:=s) hg.1).2
def UX:AI:=⟨Om,Gc,Gc⟩
structure zJL (w:AI) (a:CR) (g ga:Bool) (r:AI × Bool × Bool):Prop where
 gs:KT w=some g
 gi:L3 w=some g
 as_:Vx w a=some ga
 ai:R7 w a=some ga
 ss:VR w a=some r
 si:VS w a=some r
 ok:r.2.2=ga
 res:r.1=UX∨JD w r.1
 bu:g=true↔Lk w
 on:ga=true→Lk w∧kQ w a∧I9 w a (r.1,r.2.1)∧JD w r.1
theorem zDK {w:AI} {a:CR} (hS:G8 w) (hA:F9 a.ay.ay): ∃g ga r,zJL w a g ga r:=by
 obtain⟨g,e1,e2,e3⟩:=pR hS;have KH:Vx w a=some (g&&Mr w a):=by
  unfold Vx;rw [e1,Aa];cases hg:g with
  |false=>rfl
  |true=>rw [if_pos rfl,zCw (e3.1 hg).shift hA];rfl
 have QP:R7 w a=some (g&&Mr w a):=by
  unfold R7;rw [e2,Aa];cases hg:g with
  |false=>rfl
  |true=>rw [if_pos rfl,zCM (e3.1 hg).shift hA];rfl
 cases FF:(g&&Mr w a)with
 |false=>
  rw [FF]at KH QP;refine⟨g,false,(UX,false,false),e1,e2,KH,QP, ?_, ?_,rfl, .inl rfl,e3,fun h=>by cases h⟩
  ·unfold VR;rw [KH];rfl
  ·unfold VS;rw [QP];rfl
 |true=>
  rw [FF]at KH QP;rw [Ae]at FF;have hK:=e3.1 FF.1;have ha:=zG7 hK.shift FF.2;obtain⟨r,d1,d2,d3,d4⟩:=zBh hS hK.shift hA ha;refine⟨g,true,(r.1,r.2,true),e1,e2,KH,QP, ?_, ?_,rfl, .inr d4,e3,fun _=>⟨hK,ha,d3,d4⟩⟩
  ·unfold VR;rw [KH,Aa,if_neg (by simp),zGG hS,Aa,d1];rfl
  ·unfold VS;rw [QP,Aa,if_neg (by simp),d2];rfl
def N8 (w:AI):Prop:=Kx (AM w.ae) w.ae.ab (Du (AM w.ae) w.ae.ab).bj w.ae.ao w.cx
def NU (w:AI):Prop:=Kv (AM w.ae) w.ae.ab w.ae.ao w.bf
theorem xP {s:Au} {a:Dv} (hS:DS s) (hg:BR s) (hA:F9 a.ay) (B9:IK s a) (h0:a.bd≠0) {r:Au × Bool} (hr:G5 s a=some r):r.1.ao=s.ao:=by
 obtain⟨y,t,e1,e2,ht,Ib,hy1⟩:=TB hg B9.srv;have h1:=hg.1;have h4:=hg.2.1;have w:IntKind.i64.wrap ((s.ak.length:Int)-1)=(s.ak.length:Int)-1:=Bc (by omega) (by omega);have AZ:a.bd=1∨a.bd= -1:=by rcases B9.step with h|h|h;exact absurd h h0;exact .inl h;exact .inr h
 have w2:IntKind.i64.wrap (y+a.bd)=y+a.bd:=Bc (by omega) (by omega);unfold G5 at hr;rw [W0 hS,Aa,w,if_pos (by simpa using h0)]at hr;simp only [e1,Aa,w2,Iq]at hr;cases hv:BP (y+a.bd) 0 ((s.ak.length:Int)-1)with
 |false=>rw [hv]at hr;cases hr;rfl
 |true=>rw [hv]at hr;cases hr;rfl
theorem KZ {s:Au} (hg:BR s):B6 (AM s) s.ab=true:=hg.2.2.1 _ (Kp (s:=s) hg.1).2
theorem zve {s r:Au} (h:r.ak=s.ak):AM r=AM s:=by unfold AM;rw [h]
theorem zy6 {w:AI} {m:Nat} (hg:BR w.ae):BZ (jS w m).1=true:=by have hR:=hg.2.2.2.2.2.2;refine SI _ m 0 (fun k hk=> ?_) hR;obtain⟨q,hq,rfl⟩:=List.mem_map.1 (List.mem_filter.1 hk).1;exact WA (aB hR q hq)
theorem zBI {w:AI} {m:Nat} (hg:BR w.ae):BZ (jZ w m).1=true:=by have hR:=hg.2.2.2.2.2.2;have fI:=Fg (KZ hg);refine SI _ m 0 (fun k hk=> ?_) hR;obtain⟨q,hq,rfl⟩:=List.mem_map.1 (List.mem_filter.1 hk).1;exact WK fI.2.2.2.2.2 fI.2.2.1 (Kn hq)
section
variable {w:AI} {a:CR} {r:AI × Bool} (hS:G8 w) (hg:BR w.ae) (hA:F9 a.ay.ay)
include hS hg hA
theorem zxy {q:Au} (h0:a.ay.bd=0) (ha:IK w.ae a.ay) (hd:G5 w.ae a.ay=some (q,true)): ∃t,t=EA w.ae a.ay.a6∧t∈w.ae.ak∧Fl t a.ay.ay w.ae.ab (Du t w.ae.ab)∧q=Nr w.ae (Bg w.ae.ao (D7 t a.ay.ay)).1∧(Du t w.ae.ab).aq=BD t w.ae.ab:=by obtain⟨y,t,e1,e2,ht,FF,e⟩:=wA hS.shift hg hA ha h0;rw [hd]at e;have e:=Option.some.inj e;have eq:=congrArg Prod.fst e;have f:=Fg (hg.2.2.1 t ht);refine⟨t, ?_,ht,xF f.2.2.2.2.2 f.2.2.1 f.1.name FF,eq,f.2.1.symm⟩;unfold EA;rw [e1,Option.getD_some,e2];rfl
theorem ztz (h:I9 w a r) (hF:N8 w):N8 r.1:=by
 have hR:=hg.2.2.2.2.2.2;have fI:=Fg (KZ hg);cases h with
 |stay=>exact hF
 |move q h1 h0 ha hd hm=>obtain⟨r',k1,_,hn⟩:=P9 hS.shift hg hA ha;rw [hd]at k1;cases k1;have es:=xP hS.shift hg hA ha h0 hd;unfold N8 at hF ⊢;dsimp only at hF ⊢ hn es;rw [zve hn.ways,hn.name,es];exact hF
 |pg q h1 h0 ha hd hs=>obtain⟨t,et,ht,A,rfl,e2⟩:=zxy hS hg hA h0 ha hd;rw [←et]at hs;obtain⟨w1,w2,w3⟩:=qN hg ht;unfold N8 at hF ⊢;dsimp only [Nr];rw [show AM (⟨w.ae.ab,w.ae.ak,w.ae.bp,(Bg w.ae.ao (D7 t a.ay.ay)).1⟩:Au)=AM w.ae from rfl,←w3];rw [←w3]at hF;exact(ztt w1 w2).1 (zBq A hR (by rw [e2];exact hs) ((ztt w1 w2).2 hF))
 |none q h1 h0 ha hd hs=>obtain⟨r',k1,_,hn⟩:=P9 hS.shift hg hA ha;rw [hd]at k1;cases k1;exact zsk hn.bu.2.2.2.2.2.2
 |fill h2 hs=>exact(zuL (m:=a.b8.toNat) fI.2.2.2.2.2 fI.2.2.1 fI.1.name hR).filled hF
 |clear h3 hs=>exact zsk (zy6 hg)
theorem zrx (h:I9 w a r) (hC:NU w):NU r.1:=by
 have hR:=hg.2.2.2.2.2.2;have fI:=Fg (KZ hg);cases h with
 |stay=>exact hC
 |move q h1 h0 ha hd hm=>obtain⟨r',k1,_,hn⟩:=P9 hS.shift hg hA ha;rw [hd]at k1;cases k1;have es:=xP hS.shift hg hA ha h0 hd;unfold NU at hC ⊢;dsimp only at hC ⊢ hn es;rw [zve hn.ways,hn.name,es];exact hC
 |pg q h1 h0 ha hd hs=>obtain⟨r',k1,_,hn⟩:=P9 hS.shift hg hA ha;rw [hd]at k1;cases k1;exact zrl hn.bu.2.2.2.2.2.2
 |none q h1 h0 ha hd hs=>obtain⟨t,et,ht,A,rfl,e2⟩:=zxy hS hg hA h0 ha hd;rw [←et]at hs;obtain⟨w1,w2,w3⟩:=qN hg ht;unfold NU at hC ⊢;dsimp only [Nr];rw [show AM (⟨w.ae.ab,w.ae.ak,w.ae.bp,(Bg w.ae.ao (D7 t a.ay.ay)).1⟩:Au)=AM w.ae from rfl];exact(zri w1 w2).1 (zyO A hR (by rw [e2];omega) ((zri w1 w2).2 hC))
 |fill h2 hs=>exact zrl (zBI hg)
 |clear h3 hs=>exact(ztk (m:=a.b8.toNat) fI.2.2.2.2.2 hR).ju hC
theorem zxj (h:I9 w a r) (hh:He w.ae=true) (hc:Fj w.ae.bp=true):Fj r.1.ae.bp=true∧He r.1.ae=true:=by
 have hR:=hg.2.2.2.2.2.2;have fI:=Fg (KZ hg);cases h with
 |stay=>exact⟨hc,hh⟩
 |move q h1 h0 ha hd hm=>have e:=zI4 hS.shift hg hA ha hd;rw [hm]at e;have e:=Option.some.inj e;simp only [Bool.true_and]at e;have e:=e.symm;rw [Ae]at e;exact e
 |pg q h1 h0 ha hd hs=>exact zvc hS.shift hg hA ha hd hh hc fun h=>absurd h0 h
 |none q h1 h0 ha hd hs=>exact zvc hS.shift hg hA ha hd hh hc fun h=>absurd h0 h
 |fill h2 hs=>
  refine⟨hc, ?_⟩;have hn:Hh (CS w.ae)=1∨Hh (CS w.ae)=2:=by
   unfold Hh;split
   ·exact .inr rfl
   ·rw [if_neg (by
     intro h;rw [List.contains_iff_mem]at h;have:=AJ.1 hs _ h;simp at this)]
    exact .inl rfl
  exact zA7 fI.2.2.2.2.2 fI.2.2.1 fI.1.name (zuL (m:=a.b8.toNat) fI.2.2.2.2.2 fI.2.2.1 fI.1.name hR) hn hh
 |clear h3 hs=>
  refine⟨hc, ?_⟩;have hn:Hh (CS w.ae)=0∨Hh (CS w.ae)=1:=by
   unfold Hh;rw [if_neg (by intro h;rw [List.contains_iff_mem]at h;have:=List.any_eq_false.1 hs _ h;simp at this)]
   split
   ·exact .inl rfl
   ·exact .inr rfl
  exact zzy (ztk (m:=a.b8.toNat) fI.2.2.2.2.2 hR) hn hh
end
theorem JD.small {w r:AI} (h:JD w r) (hg:Lk w):G8 r:=⟨h.shift.small,by have:=zyd (h.up hg.up);omega,by have:=zyd (h.down hg.down);omega⟩
theorem JD.bu {w r:AI} (h:JD w r) (hg:Lk w):Lk r:=⟨h.shift.bu,h.up hg.up,h.down hg.down⟩
structure Nq (w r:AI):Prop where
 shift:Lm w.ae r.ae
 bu:Lk r
 small:G8 r
 filled:N8 w→N8 r
 ju:NU w→NU r
 held:He w.ae=true→Fj w.ae.bp=true→Fj r.ae.bp=true∧He r.ae=true
theorem Nq.refl {w:AI} (hS:G8 w) (hg:Lk w):Nq w w:=⟨.refl hS.shift hg.shift,hg,hS,fun h=>h,fun h=>h,fun h k=>⟨k,h⟩⟩
theorem Nq.step {w r:AI} {a:CR} {b:Bool} (hS:G8 w) (hg:Lk w) (hA:F9 a.ay.ay) (h:I9 w a (r,b)) (k:JD w r):Nq w r:=
 ⟨k.shift,k.bu hg,k.small hg,ztz hS hg.shift hA h,zrx hS hg.shift hA h,fun h1 h2=>zxj hS hg.shift hA h h1 h2⟩
theorem Nq.trans {w r q:AI} (h:Nq w r) (k:Nq r q):Nq w q:=
 ⟨h.shift.trans k.shift,k.bu,k.small,fun f=>k.filled (h.filled f),fun f=>k.ju (h.ju f),fun h1 h2=>k.held (h.held h1 h2).2 (h.held h1 h2).1⟩
def Mm (w:AI):Bool:=(rows (AM w.ae) w.ae.ao).all fun r=> !(w.cx.bg|| !behind w.cx.al (AQ (AM w.ae) r).af)||(Be (AM w.ae) w.ae.ab w.ae.ao).contains (Bv (AM w.ae) w.ae.ab (Du (AM w.ae) w.ae.ab).bj r)
def Mf (w:AI):Bool:=(Be (AM w.ae) w.ae.ab w.ae.ao).all fun k=> !(w.bf.bg|| !behind w.bf.al k)
theorem ztr {w:AI} (hg:BR w.ae):Mm w=true↔N8 w:=by
 have fI:=Fg (KZ hg);have hl:CG w.ae.ab 1=true:=by rw [←fI.1.name];exact(Ey fI.2.2.2.2.2 fI.2.2.1).1
 have hc:=B7.1 (Ey fI.2.2.2.2.2 fI.2.2.1).2;unfold Mm N8 Kx;rw [AJ];constructor
 ·intro h q hq hr hf;have h1:=h (B5 q) (Te.2 ⟨q,hq,hr,rfl⟩);rw [←(Fw hr).2]at h1;have e:(w.cx.bg|| !behind w.cx.al q.af)=true:=by
   rcases hf with hf|hf
   ·rw [hf];rfl
   ·rw [hf,Bool.not_false,Bool.or_true]
  rw [e,Bool.not_true,Bool.false_or,List.contains_iff_mem]at h1;obtain⟨v,v1,_,v3⟩:=GN.1 h1;exact⟨v,v1,v3.symm⟩
 ·intro h r hr;obtain⟨q,hq,h2,rfl⟩:=Te.1 hr;rw [←(Fw h2).2];cases e:(w.cx.bg|| !behind w.cx.al q.af)with
  |false=>rfl
  |true=>rw [Bool.not_true,Bool.false_or,List.contains_iff_mem];rw [Bool.or_eq_true,Bool.not_eq_true']at e;obtain⟨v,v1,v2⟩:=h q hq h2 e;refine GN.2 ⟨v,v1, ?_,v2.symm⟩;rw [v2,P8 fI.2.2.2.2.2 hl (Fw h2).1 (by omega) hc.2];simp
theorem zrr {w:AI}:Mf w=true↔NU w:=by
 unfold Mf NU Kv;rw [AJ];constructor
 ·intro h v hv he;have:=h v.af (GN.2 ⟨v,hv,he,rfl⟩);rw [Bool.not_eq_true',Bool.or_eq_false_iff,Bool.not_eq_false']at this;exact this
 ·intro h k hk;obtain⟨v,hv,he,rfl⟩:=GN.1 hk;have:=h v hv he;rw [this.1,this.2];rfl
theorem bF (last k:Af):(Op.bytesLess k last||k==last)= !behind last k:=by unfold behind;rw [Bool.not_not]
structure zH1 (w:AI):Prop where
 at0:getI w.ae.ak 0=some (AM w.ae)
 sE:Jo (AM w.ae) w.ae.ab w.ae.ao=some (Be (AM w.ae) w.ae.ab w.ae.ao)
 iE:KR (AM w.ae) w.ae.ab w.ae.ao=some (Be (AM w.ae) w.ae.ab w.ae.ao)
 sR:Jn (AM w.ae) w.ae.ao=some (rows (AM w.ae) w.ae.ao)
 iR:PE (AM w.ae) w.ae.ao=some (rows (AM w.ae) w.ae.ao)
 lE:(Be (AM w.ae) w.ae.ab w.ae.ao).length≤24
 lR:(rows (AM w.ae) w.ae.ao).length≤24
 nm:w.ae.ab.length≤2000000
 small:Di (AM w.ae)
theorem Tx {w:AI} (hg:BR w.ae):zH1 w:=by have fI:=Fg (KZ hg);obtain⟨_,_,n1,n2,n3⟩:=dH (KZ hg);have hR:=(Eg hg.2.2.2.2.2.2).1;have hl:=hR.len;have hT: ∀v∈w.ae.ao,FQ v:=fun v hv=>Ko (hR.bu v hv);have h1:=SL (AM w.ae) w.ae.ab w.ae.ao;have h2:=rows_len (AM w.ae) w.ae.ao;exact⟨(Kp (s:=w.ae) hg.1).1,bR (by omega) (by omega) (by omega) hT,pU (by omega) (by omega) n3 (by omega) hT,Qh (by omega) (by omega) hT,sL n1 (by omega) hT,by omega,by omega,by omega,GM fI.2.2.2.2.2⟩
theorem zA4 {w:AI} (hg:BR w.ae):Zu w=some (Mm w):=by
 have F:=Tx hg;have fI:=Fg (KZ hg);have FR: ∀r∈rows (AM w.ae) w.ae.ao,Bd (AM w.ae) r=true:=fun r h=>Kn h;have fY:=F.lR;have OV:=F.lE;unfold Zu Mm;rw [F.at0,Aa,F.sE,Aa,F.sR,Aa];generalize rows (AM w.ae) w.ae.ao=R at FR fY;generalize Be (AM w.ae) w.ae.ab w.ae.ao=En at OV;rw [Kr (xs:=R) (body:=fun s:Int=>RD w (AM w.ae) En R s) (fun r=> !(w.cx.bg|| !behind w.cx.al (AQ (AM w.ae) r).af)||En.contains (Bv (AM w.ae) w.ae.ab (Du (AM w.ae) w.ae.ab).bj r)) false (some true) (fun i hi=>by
  have hr:=FR _ (List.getElem_mem hi);obtain⟨hs,h2⟩:=IQ fI.2.2.2.2.2 hr;have A2:R[i].ax≠ []:=fun e=>by rw [e]at h2;simp at h2
  have e1:IP (AM w.ae) (Du (AM w.ae) w.ae.ab) R[i]=some (Bv (AM w.ae) w.ae.ab (Du (AM w.ae) w.ae.ab).bj R[i]):=WD (by have:=F.small.name;omega) F.nm fI.1 (bA fI.2.2.2.2.2 hr);have e2:decide (BH (fun x=>x==Bv (AM w.ae) w.ae.ab (Du (AM w.ae) w.ae.ab).bj R[i]) En<0)= !En.contains (Bv (AM w.ae) w.ae.ab (Du (AM w.ae) w.ae.ab).bj R[i]):=by rw [←X9,←NY,←decide_not];rw [decide_eq_decide];omega
  have hw:=Bl hi (by omega);have hd:decide ((i:Int)<(R.length:Int))=true:=decide_eq_true (by omega);show RD w (AM w.ae) En R i=_;unfold RD;simp only [hd,if_true,AN hi,Aa,Jx F.small,fI.1.at_,e1,kC (xs:=En) (by omega),e2,K5 F.small.name hs.small A2,bF,hw];cases w.cx.bg<;>cases behind w.cx.al (AQ (AM w.ae) R[i]).af<;>cases En.contains (Bv (AM w.ae) w.ae.ab (Du (AM w.ae) w.ae.ab).bj R[i])<;>rfl) (by
  show RD w (AM w.ae) En R R.length=_;unfold RD;rw [if_neg (by simp)])]
 cases(R.all fun r=> !(w.cx.bg|| !behind w.cx.al (AQ (AM w.ae) r).af)||En.contains (Bv (AM w.ae) w.ae.ab (Du (AM w.ae) w.ae.ab).bj r))<;>rfl
theorem zBa {w:AI} (hg:BR w.ae):FL (rows (AM w.ae) w.ae.ao) (fun y0_=>RY y0_ w w.ae (Be (AM w.ae) w.ae.ab w.ae.ao))=some (!Mm w):=by
 have F:=Tx hg;have fI:=Fg (KZ hg);have FR: ∀r∈rows (AM w.ae) w.ae.ao,Bd (AM w.ae) r=true:=fun r h=>Kn h;have fY:=F.lR;have OV:=F.lE;have h0:=F.at0;unfold Mm;generalize rows (AM w.ae) w.ae.ao=R at FR fY;generalize Be (AM w.ae) w.ae.ab w.ae.ao=En at OV;rw [Qk (xs:=R) (p:=fun y0_=>RY y0_ w w.ae En) (fun r=> !(!(w.cx.bg|| !behind w.cx.al (AQ (AM w.ae) r).af)||En.contains (Bv (AM w.ae) w.ae.ab (Du (AM w.ae) w.ae.ab).bj r))) (fun r hrm=>by
  have hr:=FR r hrm;obtain⟨hs,h2⟩:=IQ fI.2.2.2.2.2 hr;have A2:r.ax≠ []:=fun e=>by rw [e]at h2;simp at h2
  have e1:=WH F.small F.nm fI.1 (bA fI.2.2.2.2.2 hr);show RY r w w.ae En=_;unfold RY;simp only [h0,Aa,e1,jK (xs:=En) (by omega),N5 F.small.name hs.small A2,bF];cases w.cx.bg<;>cases behind w.cx.al (AQ (AM w.ae) r).af<;>cases En.contains (Bv (AM w.ae) w.ae.ab (Du (AM w.ae) w.ae.ab).bj r)<;>rfl) (by omega),List.not_all_eq_any_not]
theorem zy5 {w:AI} (hg:BR w.ae):Zg w=some (Mf w):=by
 have F:=Tx hg;have OV:=F.lE;unfold Zg Mf;rw [F.at0,Aa,F.sE,Aa];generalize Be (AM w.ae) w.ae.ab w.ae.ao=En at OV;rw [Kr (xs:=En) (body:=fun s:Int=>RJ w En s) (fun k=> !(w.bf.bg|| !behind w.bf.al k)) false (some true) (fun i hi=>by
  have hw:=Bl hi (by omega);have hd:decide ((i:Int)<(En.length:Int))=true:=decide_eq_true (by omega);show RJ w En i=_;unfold RJ;simp only [hd,if_true,AN hi,Aa,bF,hw];cases w.bf.bg<;>cases behind w.bf.al En[i]<;>rfl) (by
  show RJ w En En.length=_;unfold RJ;rw [if_neg (by simp)])]
 cases(En.all fun k=> !(w.bf.bg|| !behind w.bf.al k))<;>rfl
theorem zy4 {w:AI} (hg:BR w.ae):FL (Be (AM w.ae) w.ae.ab w.ae.ao) (fun y0_=>R8 y0_ w)=some (!Mf w):=by
 have F:=Tx hg;have OV:=F.lE;unfold Mf;generalize Be (AM w.ae) w.ae.ab w.ae.ao=En at OV;rw [Qk (xs:=En) (p:=fun y0_=>R8 y0_ w) (fun k=> !(!(w.bf.bg|| !behind w.bf.al k))) (fun k _=>by show R8 k w=_;unfold R8;rw [bF,Bool.not_not]) (by omega),List.not_all_eq_any_not]
structure zJ5 (w:AI) (g:Bool):Prop where
 gs:KT w=some g
 gi:L3 w=some g
 fs:VU w=some (if g=true then(Mm w,true)else(false,false))
 fi:SB w=some (if g=true then(Mm w,true)else(false,false))
 cs:VE w=some (if g=true then(Mf w,true)else(false,false))
 ci:So w=some (if g=true then(Mf w,true)else(false,false))
 bu:g=true↔Lk w
theorem z8 {w:AI} (hS:G8 w): ∃g,zJ5 w g:=by
 obtain⟨g,e1,e2,e3⟩:=pR hS;cases g with
 |false=>
  refine⟨false,e1,e2, ?_, ?_, ?_, ?_,e3⟩
  ·unfold VU;rw [e1];rfl
  ·unfold SB;rw [e2];rfl
  ·unfold VE;rw [e1];rfl
  ·unfold So;rw [e2];rfl
 |true=>
  have hg:=(e3.1 rfl).shift;have F:=Tx hg;refine⟨true,e1,e2, ?_, ?_, ?_, ?_,e3⟩
  ·unfold VU;rw [e1,Aa,if_neg (by simp),zA4 hg];rfl
  ·unfold SB;rw [e2,Aa,if_neg (by simp),F.at0,Aa,F.iE,Aa,F.iR,Aa,zBa hg,Aa,Bool.not_not];rfl
  ·unfold VE;rw [e1,Aa,if_neg (by simp),zy5 hg];rfl
  ·unfold So;rw [e2,Aa,if_neg (by simp),F.at0,Aa,F.iE,Aa,zy4 hg,Aa,Bool.not_not];rfl
end Go.Proofs.YtbmbkgalkfmjdaaGreatDoor
end
